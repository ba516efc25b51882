/- A small library over the kit: worlds that keep some blocks, representations of data in memory, rows that a call owns. Nothing of the program is named here; no conditions. -/
import Derived.WalkKit
import Derived.ProofKit
import Derived.OpenShut
import Derived.ChangeOld
import Derived.Below
import Derived.Lib.Hide
import Derived.OwnWalk
import Derived.Deep.AppendLies
import Derived.Maps.AppendAt
import Derived.Deep.Draws
import Derived.Laws.IdiomCopy
import Derived.Lib.QuietBelow
import Derived.StillTail
import Derived.Laws.CopyOwn
import Derived.Deep.RegionHeld
import Derived.Deep.MidRow
set_option maxRecDepth 100000
namespace Go.Proofs.YtjknlhiimmbilaaGreatDoor
open Go.ChangeShapes Go.WideShapes Go.ChangeAt Go.RowKit
theorem Hd{p:Prop}(h:p):Hid p:=h
theorem ret_bool {a b:Bool}(h:a=b):Ending.returned (.bool a)= .returned (.bool b):=by rw [h]
theorem ret_int {k:IntKind}{a b:Int}(h:a=b):Ending.returned (.int k a)= .returned (.int k b):=by rw [h]
theorem bnext {a b c:World}(h1:Below a.heap.size a b)(h2:Below b.heap.size b c):Below a.heap.size a c:=h1.trans (h2.mono h1.size)
theorem bnew {a b:World}(h:Below a.heap.size a b)(o:Obj):Below a.heap.size a (b.alloc o):=h.alloc h.size o
structure Kept (S:Nat→Prop)(w w':World):Prop where
 os:w'.os=w.os
 tape:w'.tape=w.tape
 output:w'.output=w.output
 size:w.heap.size≤w'.heap.size
 block: ∀k,k<w.heap.size→S k→w'.heap[k]? =w.heap[k]?
theorem Kept.refl (S:Nat→Prop)(w:World):Kept S w w:=⟨rfl,rfl,rfl,Nat.le_refl _,fun _ _ _=>rfl⟩
theorem Kept.trans {S S':Nat→Prop}{a b c:World}(h:Kept S a b)(k:Kept S' b c)(hS: ∀i,i<a.heap.size→S i→S' i):Kept S a c:=
 ⟨k.os.trans h.os,k.tape.trans h.tape,k.output.trans h.output,Nat.le_trans h.size k.size,
  fun i hi hs=>(k.block i (Nat.lt_of_lt_of_le hi h.size) (hS i hi hs)).trans (h.block i hi hs)⟩
theorem Kept.mono {S S':Nat→Prop}{a b:World}(h:Kept S a b)(hS: ∀i,i<a.heap.size→S' i→S i):Kept S' a b:=
 ⟨h.os,h.tape,h.output,h.size,fun i hi hs=>h.block i hi (hS i hi hs)⟩
theorem Kept.of_below {S:Nat→Prop}{a b:World}(h:Below a.heap.size a b):Kept S a b:=⟨h.os,h.tape,h.output,h.size,fun i hi _=>h.block i hi⟩
theorem Kept.below {B:Nat}{a b:World}(h:Kept (fun k=>k<B) a b)(hB:B≤a.heap.size):Below B a b:=⟨h.os,h.tape,h.output,h.size,fun i hi=>h.block i (by omega) hi⟩
theorem Kept.drew {S:Nat→Prop}{a b:World}(h:Kept S a b):Kept S a b.drew:=⟨h.os,h.tape,h.output,h.size,h.block⟩
theorem Kept.setCell {S:Nat→Prop}{a b:World}(h:Kept S a b){p:Addr}(hp:p.block<a.heap.size→ ¬S p.block)(u:Value):Kept S a (b.setCell p u):=
 ⟨h.os,h.tape,h.output,by simpa [World.setCell]using h.size,fun i hi hs=>(Below.heap_setCell b p u i (fun e=>hp (e▸hi) (e▸hs))).trans (h.block i hi hs)⟩
theorem Kept.grown {S:Nat→Prop}{a b c:World}{row:Option Nat}(h:Kept S a b)(hg:b.grownBy c row)(hr: ∀k,row=some k→k<a.heap.size→ ¬S k):Kept S a c:=
 ⟨hg.os.trans h.os,hg.tape.trans h.tape,hg.output.trans h.output,Nat.le_trans h.size hg.size,
  fun i hi hs=>(hg.block i (Nat.lt_of_lt_of_le hi h.size) (fun e=>hr i e.symm hi hs)).trans (h.block i hi hs)⟩
theorem Kept.of_grown {S:Nat→Prop}{b c:World}{row:Option Nat}(hg:b.grownBy c row)(hr: ∀k,row=some k→ ¬S k):Kept S b c:=
 (Kept.refl S b).grown hg (fun k hk _=>hr k hk)
theorem cell_lt {w:World}{a:Addr}{v:Value}(h:w.cell? a=some v):a.block<w.heap.size:=World.block_lt_of_cell? w a h
theorem Kept.cell {S:Nat→Prop}{a b:World}(h:Kept S a b){p:Addr}{v:Value}(hp:S p.block)(hc:a.cell? p=some v):b.cell? p=some v:=
 (World.cell?_of_block (w:=a) (h.block p.block (cell_lt hc) hp)).trans hc
structure Rep (α:Type) where
 n:Nat
 rel:(Nat→Prop)→World→List Value→α→Prop
 len: ∀ {S w cs x},rel S w cs x→cs.length=n
 one: ∀ {S w cs x},rel S w cs x→ ∀c∈cs,c.oneCell'=true
 keep: ∀ {S w w' cs x},rel S w cs x→Kept S w w'→rel S w' cs x
 mono: ∀ {S S' w cs x},rel S w cs x→(∀k,k<w.heap.size→S k→S' k)→rel S' w cs x
def intR (k:IntKind):Rep Int where
 n:=1
 rel _ _ cs x:=cs= [.int k x]∧(Lit.int k x).wf=true
 len h:=by rw [h.1];rfl
 one h:=by rw [h.1];simp [Value.oneCell']
 keep h _:=h
 mono h _:=h
def boolR:Rep Bool where
 n:=1
 rel _ _ cs x:=cs= [.bool x]
 len h:=by rw [h];rfl
 one h:=by rw [h];simp [Value.oneCell']
 keep h _:=h
 mono h _:=h
def pairR {α β:Type}(r:Rep α)(s:Rep β):Rep (α×β) where
 n:=r.n+s.n
 rel S w cs x:= ∃c1 c2,cs=c1++c2∧r.rel S w c1 x.1∧s.rel S w c2 x.2
 len:=by rintro S w cs x ⟨c1,c2,rfl,h1,h2⟩;rw [List.length_append,r.len h1,s.len h2]
 one:=by
   rintro S w cs x ⟨c1,c2,rfl,h1,h2⟩ c hc
   rcases List.mem_append.1 hc with h|h
   · exact r.one h1 c h
   · exact s.one h2 c h
 keep:=by rintro S w w' cs x ⟨c1,c2,rfl,h1,h2⟩ hk;exact⟨c1,c2,rfl,r.keep h1 hk,s.keep h2 hk⟩
 mono:=by rintro S S' w cs x ⟨c1,c2,rfl,h1,h2⟩ hk;exact⟨c1,c2,rfl,r.mono h1 hk,s.mono h2 hk⟩
def mapR {α β:Type}(f:β→α)(r:Rep α):Rep β where
 n:=r.n
 rel S w cs x:=r.rel S w cs (f x)
 len h:=r.len h
 one h:=r.one h
 keep h hk:=r.keep h hk
 mono h hk:=r.mono h hk
def CellsAt (w:World)(b o:Nat)(es:List Value):Prop:= ∀j c,es[j]? =some c→w.cell? ⟨b,o+j,none⟩=some c
theorem CellsAt.keep {S:Nat→Prop}{w w':World}{b o:Nat}{es:List Value}(h:CellsAt w b o es)(hk:Kept S w w')(hb:S b):CellsAt w' b o es:=
 fun j c hj=>hk.cell hb (h j c hj)
def sliceR {α:Type}(r:Rep α):Rep (List α) where
 n:=1
 rel S w cs xs:= ∃a len cap,cs= [.slice a len cap]∧len=xs.length∧len≤cap∧cap≤maxLen∧(a=none→cap=0)∧
   ∀i x,xs[i]? =some x→ ∃b off es,a=some ⟨b,off,none⟩∧S b∧r.rel S w es x∧CellsAt w b (off+i*r.n) es∧b<w.heap.size
 len:=by rintro S w cs xs ⟨a,len,cap,rfl,_⟩;rfl
 one:=by rintro S w cs xs ⟨a,len,cap,rfl,_⟩ c hc;simp at hc;subst hc;rfl
 keep:=by
   rintro S w w' cs xs ⟨a,len,cap,rfl,h1,h2,h3,h4,h5⟩ hk
   refine⟨a,len,cap,rfl,h1,h2,h3,h4,fun i x hx=> ?_⟩
   obtain⟨b,off,es,ha,hb,hr,hc,hlt⟩:=h5 i x hx
   exact⟨b,off,es,ha,hb,r.keep hr hk,hc.keep hk hb,Nat.lt_of_lt_of_le hlt hk.size⟩
 mono:=by
   rintro S S' w cs xs ⟨a,len,cap,rfl,h1,h2,h3,h4,h5⟩ hk
   refine⟨a,len,cap,rfl,h1,h2,h3,h4,fun i x hx=> ?_⟩
   obtain⟨b,off,es,ha,hb,hr,hc,hlt⟩:=h5 i x hx
   exact⟨b,off,es,ha,hk b hlt hb,r.mono hr hk,hc,hlt⟩
section
variable {α:Type} (r:Rep α) {S:Nat→Prop} {w w':World}
theorem Rep.keepB {cs:List Value}{x:α}(h:r.rel S w cs x)(hb:Below w.heap.size w w'):r.rel S w' cs x:=r.keep h (Kept.of_below hb)
theorem Rep.bound {cs:List Value}{x:α}(h:r.rel S w cs x):r.rel (fun k=>S k∧k<w.heap.size) w cs x:=r.mono h fun _ hk hs=>⟨hs,hk⟩
end
theorem sliceR.form {α:Type}{r:Rep α}{S:Nat→Prop}{w:World}{v:Value}{xs:List α}(h:(sliceR r).rel S w [v] xs):
   ∃a cap,v= .slice a xs.length cap∧xs.length≤cap∧cap≤maxLen:=by
 obtain⟨a,len,cap,hv,rfl,h2,h3,h4,h5⟩:=h
 exact⟨a,cap,by simpa using hv,h2,h3⟩
theorem sliceR.at {α:Type}{r:Rep α}{S:Nat→Prop}{w:World}{a:Option Addr}{len cap:Nat}{xs:List α}(h:(sliceR r).rel S w [.slice a len cap] xs)(i:Nat)(hi:i<xs.length):
   ∃b off es,a=some ⟨b,off,none⟩∧S b∧b<w.heap.size∧r.rel S w es xs[i]∧CellsAt w b (off+i*r.n) es:=by
 obtain⟨a',len',cap',hv,h1,h2,h3,h4,h5⟩:=h
 simp at hv
 obtain⟨rfl,rfl,rfl⟩:=hv
 obtain⟨b,off,es,ha,hb,hr,hc,hlt⟩:=h5 i xs[i] (by simp [hi])
 exact⟨b,off,es,ha,hb,hlt,hr,hc⟩
theorem sliceR.lens {α:Type}{r:Rep α}{S:Nat→Prop}{w:World}{a:Option Addr}{len cap:Nat}{xs:List α}(h:(sliceR r).rel S w [.slice a len cap] xs):
   len=xs.length∧len≤cap∧cap≤maxLen∧(a=none→cap=0):=by
 obtain⟨a',len',cap',hv,h1,h2,h3,h4,h5⟩:=h
 simp at hv
 obtain⟨rfl,rfl,rfl⟩:=hv
 exact⟨h1,h2,h3,h4⟩
theorem sliceR.nil {α:Type}{r:Rep α}{S:Nat→Prop}{w:World}:(sliceR r).rel S w [.slice none 0 0] []:=
 ⟨none,0,0,rfl,rfl,Nat.le_refl _,by unfold maxLen;omega,fun _=>rfl,fun i x h=>by simp at h⟩
def Own {α:Type}(r:Rep α)(base:Nat)(e:TypeId)(F:Nat→Prop)(w:World)(v:Value)(xs:List α):Prop:=
 ∃(S:Nat→Prop) (css:List (List Value)),(∀k,S k→F k∧k<w.heap.size)∧(∀k,v.ownBlock=some k→ ¬S k∧F k)∧
  css.length=xs.length∧(∀(i:Nat) (cs:List Value) (x:α),css[i]? =some cs→xs[i]? =some x→r.rel S w cs x)∧w.ownsRow base e r.n v xs.length css.flatten
theorem Own.nil {α:Type}(r:Rep α)(base:Nat)(e:TypeId)(F:Nat→Prop)(w:World):Own r base e F w (.slice none 0 0) []:=
 ⟨fun _=>False,[],fun _ h=>h.elim,fun k h=>by simp [Value.ownBlock]at h,rfl,fun i cs x h=>by simp at h,World.ownsRow_nil w base e r.n⟩
theorem flatten_at {α:Type}{n:Nat}: ∀ {css:List (List α)},(∀cs∈css,cs.length=n)→ ∀(i:Nat) (cs:List α),css[i]? =some cs→ ∀j c,cs[j]? =some c→css.flatten[i*n+j]? =some c
 | [],_,i,cs,h,_,_,_=>by simp at h
 |d::css,hl,0,cs,h,j,c,hj=>by
  simp at h;subst h
  have hjl:j<d.length:=(List.getElem?_eq_some_iff.1 hj).1
  simp [List.getElem?_append_left hjl,hj]
 |d::css,hl,i+1,cs,h,j,c,hj=>by
  have hd:d.length=n:=hl d (by simp)
  have:=flatten_at (css:=css) (fun cs hc=>hl cs (by simp [hc])) i cs (by simpa using h) j c hj
  rw [List.flatten_cons,List.getElem?_append_right (by rw [hd,Nat.succ_mul];omega),hd,←this]
  congr 1
  rw [Nat.succ_mul];omega
theorem flatten_len {α:Type}{n:Nat}: ∀ {css:List (List α)},(∀cs∈css,cs.length=n)→css.flatten.length=css.length*n
 | [],_=>by simp
 |d::css,hl=>by
  rw [List.flatten_cons,List.length_append,flatten_len (css:=css) (fun cs hc=>hl cs (by simp [hc])),hl d (by simp),List.length_cons,Nat.succ_mul];omega
section
variable {α:Type} {r:Rep α} {base:Nat} {e:TypeId} {F:Nat→Prop} {w w':World} {v:Value} {xs:List α}
theorem Own.mono {F':Nat→Prop}(h:Own r base e F w v xs)(hF: ∀k,k<w.heap.size→F k→F' k):Own r base e F' w v xs:=by
 obtain⟨S,css,hS,hv,hl,hr,ho⟩:=h
 exact⟨S,css,fun k hk=>⟨hF k (hS k hk).2 (hS k hk).1,(hS k hk).2⟩,fun k hk=>⟨(hv k hk).1,hF k (ho.lt k hk).2 (hv k hk).2⟩,hl,hr,ho⟩
theorem ownsRow_keep {base:Nat}{e:TypeId}{size n:Nat}{v:Value}{ys:List Value}{S:Nat→Prop}(h:w.ownsRow base e size v n ys)(hk:Kept S w w')(hv: ∀k,v.ownBlock=some k→S k):w'.ownsRow base e size v n ys:=by
 refine⟨h.1,?_⟩
 rcases h.2 with h0|⟨g,cap,cur,rfl,hb,hg,h1,h2,h3,h4⟩
 · exact .inl h0
 · have hlt:g<w.heap.size:=(h.lt g rfl).2
   exact .inr ⟨g,cap,cur,rfl,hb,by rw [hk.block g hlt (hv g rfl),hg],h1,h2,h3,h4⟩
theorem Own.keep (h:Own r base e F w v xs)(hk:Kept F w w'):Own r base e F w' v xs:=by
 obtain⟨S,css,hS,hv,hl,hr,ho⟩:=h
 exact⟨S,css,fun k hk'=>⟨(hS k hk').1,Nat.lt_of_lt_of_le (hS k hk').2 hk.size⟩,hv,hl,
   fun i cs x hc hx=>r.keep (hr i cs x hc hx) (hk.mono fun k _ h=>(hS k h).1),ownsRow_keep ho hk fun k hk'=>(hv k hk').2⟩
theorem Own.keepB (h:Own r base e F w v xs)(hb:Below w.heap.size w w'):Own r base e F w' v xs:=h.keep (Kept.of_below hb)
theorem Own.bound (h:Own r base e F w v xs):Own r base e (fun k=>F k∧k<w.heap.size) w v xs:=h.mono fun _ hk hF=>⟨hF,hk⟩
theorem Own.slice (h:Own r base e F w v xs):(sliceR r).rel F w [v] xs:=by
 obtain⟨S,css,hS,hv,hl,hr,ho⟩:=h
 rcases ho.2 with⟨rfl,h0⟩|⟨g,cap,cur,rfl,hb,hg,h1,h2,h3,h4⟩
 · obtain rfl:=List.eq_nil_of_length_eq_zero h0
   exact sliceR.nil
 · refine⟨_,_,_,rfl,rfl,h1,h2,fun h=>by simp at h,fun i x hx=> ?_⟩
   have hi:i<xs.length:=(List.getElem?_eq_some_iff.1 hx).1
   have hcs:css[i]? =some css[i]:=by simp [hl,hi]
   have hrel:=hr i _ x hcs hx
   have hall: ∀cs∈css,cs.length=r.n:=by
     intro cs hc
     obtain⟨m,hm,rfl⟩:=List.getElem_of_mem hc
     exact r.len (hr m _ (xs[m]'(by omega)) (by simp [hm]) (by simp [hl▸hm]))
   refine⟨g,0,css[i],rfl,(hv g rfl).2,r.mono hrel fun k _ hk=>(hS k hk).1,fun j c hj=> ?_,(ho.lt g rfl).2⟩
   have:=flatten_at hall i _ hcs j c hj;have hc:=ho.cells (g:=g) rfl (i*r.n+j) c this;rw [Addr.add_lit]at hc
   simpa using hc
end
theorem exists_list {β:Type}{Q:Nat→β→Prop}: ∀(n:Nat),(∀i,i<n→ ∃x,Q i x)→ ∃l:List β,l.length=n∧ ∀(i:Nat) (x:β),l[i]? =some x→Q i x
 |0,_=>⟨[],rfl,fun i x h=>by simp at h⟩
 |n+1,h=>by
  obtain⟨l,hl,hq⟩:=exists_list n (fun i hi=>h i (by omega))
  obtain⟨x,hx⟩:=h n (by omega)
  refine⟨l++ [x],by simp [hl],fun i y hy=> ?_⟩
  rcases Nat.lt_or_ge i l.length with hlt|hge
  · rw [List.getElem?_append_left hlt]at hy;exact hq i y hy
  · rw [List.getElem?_append_right hge]at hy
    obtain⟨h1,h2⟩:=List.getElem?_eq_some_iff.1 hy
    simp at h1
    have:i=n:=by omega
    subst this
    simp at h2;subst h2;exact hx
theorem flatten_inv {β:Type}{n:Nat}: ∀ {css:List (List β)},(∀cs∈css,cs.length=n)→ ∀(j:Nat) (c:β),css.flatten[j]? =some c→ ∃i k cs,j=i*n+k∧css[i]? =some cs∧cs[k]? =some c
 | [],_,j,c,h=>by simp at h
 |d::css,hl,j,c,h=>by
  have hd:d.length=n:=hl d (by simp)
  rw [List.flatten_cons]at h
  rcases Nat.lt_or_ge j d.length with hlt|hge
  · rw [List.getElem?_append_left hlt]at h
    exact⟨0,j,d,by simp,rfl,h⟩
  · rw [List.getElem?_append_right hge]at h
    obtain⟨i,k,cs,h1,h2,h3⟩:=flatten_inv (css:=css) (fun cs hc=>hl cs (by simp [hc])) _ c h
    exact⟨i+1,k,cs,by rw [Nat.succ_mul];omega,by simpa using h2,h3⟩
def Src {α:Type}(r:Rep α)(S:Nat→Prop)(w:World)(u:Value)(ys:List α):Prop:=
 ∃(css:List (List Value)) (a:Option Addr) (cap:Nat),u= .slice a ys.length cap∧(a=none→cap=0)∧css.length=ys.length∧
  (∀(i:Nat) (cs:List Value) (y:α),css[i]? =some cs→ys[i]? =some y→r.rel S w cs y)∧
  ∀(j:Nat) (c:Value),css.flatten[j]? =some c→ ∃b off,a=some ⟨b,off,none⟩∧w.cell? ⟨b,off+j,none⟩=some c
theorem all_len {α:Type} {r:Rep α} {S:Nat→Prop} {w:World} {css:List (List Value)} {ys:List α} (hl:css.length=ys.length)
   (hr: ∀(i:Nat) (cs:List Value) (y:α),css[i]? =some cs→ys[i]? =some y→r.rel S w cs y): ∀cs∈css,cs.length=r.n:=by
 intro cs hc
 obtain⟨m,hm,rfl⟩:=List.getElem_of_mem hc
 exact r.len (hr m _ (ys[m]'(by omega)) (by simp [hm]) (by simp [hl▸hm]))
theorem all_one {α:Type} {r:Rep α} {S:Nat→Prop} {w:World} {css:List (List Value)} {ys:List α} (hl:css.length=ys.length)
   (hr: ∀(i:Nat) (cs:List Value) (y:α),css[i]? =some cs→ys[i]? =some y→r.rel S w cs y): ∀u∈css.flatten,u.oneCell'=true:=by
 intro u hu
 obtain⟨cs,hc,hu⟩:=List.mem_flatten.1 hu;obtain⟨m,hm,rfl⟩:=List.getElem_of_mem hc
 exact r.one (hr m _ (ys[m]'(by omega)) (by simp [hm]) (by simp [hl▸hm])) u hu
theorem Src.of_slice {α:Type}{r:Rep α}{S:Nat→Prop}{w:World}{u:Value}{ys:List α}(h:(sliceR r).rel S w [u] ys):Src r S w u ys:=by
 obtain⟨a,len,cap,hu,rfl,h2,h3,h4,h5⟩:=h
 simp at hu
 obtain⟨css,hl,hq⟩:=exists_list (Q:=fun i es=> ∀y,ys[i]? =some y→ ∃b off,a=some ⟨b,off,none⟩∧r.rel S w es y∧CellsAt w b (off+i*r.n) es) ys.length (by
   intro i hi
   obtain⟨b,off,es,ha,hb,hr,hc,hlt⟩:=h5 i ys[i] (by simp [hi])
   refine⟨es,fun y hy=> ?_⟩
   have:ys[i]=y:=by simpa [hi]using hy
   subst this
   exact⟨b,off,ha,hr,hc⟩)
 have hr: ∀(i:Nat) (cs:List Value) (y:α),css[i]? =some cs→ys[i]? =some y→r.rel S w cs y:=fun i cs y hc hy=>by
   obtain⟨b,off,_,h,_⟩:=hq i cs hc y hy
   exact h
 refine⟨css,a,cap,hu,h4,hl,hr,fun j c hj=> ?_⟩
 obtain⟨i,k,cs,rfl,hc,hk⟩:=flatten_inv (all_len hl hr) j c hj
 have hi:i<ys.length:=by rw [←hl];exact(List.getElem?_eq_some_iff.1 hc).1
 obtain⟨b,off,ha,_,hca⟩:=hq i cs hc ys[i] (by simp [hi])
 exact⟨b,off,ha,by rw [←Nat.add_assoc];exact hca k c hk⟩
theorem Src.one {α:Type}{r:Rep α}{S:Nat→Prop}{w:World}{b off cap:Nat}{es:List Value}{y:α}(h:r.rel S w es y)(hc:CellsAt w b off es):Src r S w (.slice (some ⟨b,off,none⟩) 1 cap) [y]:=by
 refine⟨[es],some ⟨b,off,none⟩,cap,rfl,fun h=>by simp at h,rfl,fun i cs z hcs hz=> ?_,fun j c hj=>⟨b,off,rfl,hc j c (by simpa using hj)⟩⟩
 match i with
 |0=>simp at hcs hz;subst hcs hz;exact h
 |i+1=>simp at hcs
def ElemTy (P:Program)(t e:TypeId)(n bytes:Nat):Prop:=
 P.underlying t=some (.slice e)∧0<n∧ ∃i z,P.info? e=some i∧i.zero=some z∧i.size=n∧i.bytes=bytes∧z.cells.size=n
theorem ElemTy.of {P:Program}{t e:TypeId}{n bytes:Nat}{z:Value}(ht:P.underlying t=some (.slice e))(h:(P.info? e).map (fun i=>(i.zero,i.size,i.bytes))=some (some z,n,bytes))(hz:z.cells.size=n)(hn:0<n):ElemTy P t e n bytes:=by
 obtain⟨i0,hi,hz0,hz1,hz2⟩:=info_parts h
 exact⟨ht,hn,i0,z,hi,hz0,hz1,hz2,hz⟩
theorem run_append_rel {P:Program} {α:Type} {r:Rep α} {base:Nat} {t ty e:TypeId} {bytes:Nat} (hT:ElemTy P t e r.n bytes) {F S:Nat→Prop} {w:World} {v u:Value} {xs ys:List α}
   (h:Own r base e F w v xs) (hu:Src r S w u ys) (hSF: ∀k,k<w.heap.size→S k→F k) (hSv: ∀k,v.ownBlock=some k→ ¬S k)
   (h63:xs.length+ys.length≤maxLen) (hbytes:(xs.length+ys.length)*bytes≤140737488355328) (hbase:base≤w.heap.size):
   ∃v' w',(Builtin.append_ #[t,t] ty #[v,u]).run P w= .ok v' w'∧Own r base e (fun k=>F k∨w.heap.size≤k) w' v' (xs++ys)∧Kept (fun k=>v.ownBlock≠some k) w w'∧
    (v'.ownBlock=v.ownBlock∨v'.ownBlock=some w.heap.size):=by
 obtain⟨ht,hn,i,z,hi,hz,hsize,hby,hzs⟩:=hT;obtain⟨S0,css,hS,hv,hl,hr,ho⟩:=h;obtain⟨dss,a,cap,rfl,hnone,hdl,hdr,hat⟩:=hu
 cases a with
 |none=>
  have hc0:=hnone rfl;subst hc0
  have hys:ys= []:=by
    cases ys with
    |nil=>rfl
    |cons y ys=>
     exfalso
     have hd:dss[0]? =some (dss[0]'(by simp [hdl])):=by simp [hdl]
     have hlen:=r.len (hdr 0 _ y hd rfl)
     have h0:=flatten_at (all_len hdl hdr) 0 _ hd 0 ((dss[0]'(by simp [hdl]))[0]'(by omega)) (by simp [hlen,hn])
     obtain⟨b,off,h1,_⟩:=hat _ _ h0
     simp at h1
  subst hys
  refine⟨v,w,run_append_owned_none (P:=P) w base t ty e i r.n ht hi v xs.length css.flatten ho,?_,Kept.refl _ _,.inl rfl⟩
  rw [List.append_nil]
  exact⟨S0,css,fun k hk=>⟨.inl (hS k hk).1,(hS k hk).2⟩,fun k hk=>⟨(hv k hk).1,.inl (hv k hk).2⟩,hl,hr,ho⟩
 |some ad=>
  have hnews: ∀j u,dss.flatten[j]? =some u→w.cell? (ad.add j)=some u:=by
    intro j u hj
    obtain⟨b,off,h1,h2⟩:=hat j u hj;obtain rfl:=Option.some.inj h1
    rw [Addr.add_lit];exact h2
  obtain⟨v',w',hrun,hown,hg,_,hblk⟩:=run_append_own_at (P:=P) w base t ty e i z r.n bytes ht hi hz hsize hby hzs hn v xs.length css.flatten ho ad ys.length cap dss.flatten
    (by rw [flatten_len (all_len hdl hdr),hdl]) hnews (all_one hdl hdr) h63 hbytes hbase
  have hkept:Kept (fun k=>v.ownBlock≠some k) w w':=Kept.of_grown hg fun k hk=>by simp [hk]
  refine⟨v',w',hrun,?_,hkept,hblk⟩
  refine⟨fun k=>S0 k∨(S k∧k<w.heap.size),css++dss,?_,?_,by simp [hl,hdl],?_,by simpa using hown⟩
  · rintro k (hk|⟨hk,hlt⟩)
    · exact⟨.inl (hS k hk).1,Nat.lt_of_lt_of_le (hS k hk).2 hg.size⟩
    · exact⟨.inl (hSF k hlt hk),Nat.lt_of_lt_of_le hlt hg.size⟩
  · intro k hk
    rcases hblk with hb|hb
    · rw [hb]at hk
      refine⟨?_,.inl (hv k hk).2⟩
      rintro(h|⟨h,_⟩)
      · exact(hv k hk).1 h
      · exact hSv k hk h
    · rw [hb]at hk
      obtain rfl:=Option.some.inj hk
      refine⟨?_,.inr (Nat.le_refl _)⟩
      rintro(h|⟨_,h⟩)
      · exact absurd (hS _ h).2 (Nat.lt_irrefl _)
      · exact absurd h (Nat.lt_irrefl _)
  · intro j cs x hc hx
    rcases Nat.lt_or_ge j css.length with hlt|hge
    · rw [List.getElem?_append_left hlt]at hc
      rw [List.getElem?_append_left (by omega)]at hx
      exact r.mono (r.keep (hr j cs x hc hx) (hkept.mono fun k _ hk=>fun he=>(hv k he).1 hk)) fun k _ hk=> .inl hk
    · rw [List.getElem?_append_right hge]at hc
      rw [List.getElem?_append_right (by omega),←hl]at hx
      have h1:=(hdr _ cs x hc hx)
      exact r.mono (r.keep (r.bound h1) (hkept.mono fun k _ hk=>fun he=>hSv k he hk.1)) fun k _ hk=> .inr hk
theorem wp_append_rel {P:Program} {o:Oper} {a:Act} {K:Act→World→Prop} {Q:Exit→Act→World→Prop} (s x:Operand) {t:TypeId}
   (ho:o.op= .call { callee:= .builtin .append,args:= #[s,x],argTypes:= #[t,t] }) {α:Type} {r:Rep α} {base:Nat} {e:TypeId} {bytes:Nat} (hT:ElemTy P t e r.n bytes) {F S:Nat→Prop} {w:World} {v u:Value} {xs ys:List α}
   (hs:a.eval s=v) (hx:a.eval x=u)
   (h:Own r base e F w v xs) (hu:Src r S w u ys) (hSF: ∀k,k<w.heap.size→S k→F k) (hSv: ∀k,v.ownBlock=some k→ ¬S k)
   (h63:xs.length+ys.length≤maxLen) (hbytes:(xs.length+ys.length)*bytes≤140737488355328) (hbase:base≤w.heap.size)
   (hK: ∀v' w',Own r base e (fun k=>F k∨w.heap.size≤k) w' v' (xs++ys)→Kept (fun k=>v.ownBlock≠some k) w w'→(v'.ownBlock=v.ownBlock∨v'.ownBlock=some w.heap.size)→K (a.put o.dst v') w'):o.wp P a w K Q:=by
 obtain⟨v',w',hr,h2,h3,h4⟩:=run_append_rel (ty:=o.type) hT h hu hSF hSv h63 hbytes hbase;unfold Oper.wp execOp
 simp only [ho,resolve,invoke,builtin,Sem.run_bind,Sem.run_pure,Result.andThen_ok,List.map_toArray,List.map_cons,List.map_nil,hs,hx,hr]
 exact hK v' w' h2 h3 h4
theorem wpList_append_rel {P:Program} {ops:Array Oper} {rest:List Oper} {o:Oper} {a:Act} {Q:Exit→Act→World→Prop} (hgd:o.guard=none) (s x:Operand) {t:TypeId}
   (ho:o.op= .call { callee:= .builtin .append,args:= #[s,x],argTypes:= #[t,t] }) {α:Type} {r:Rep α} {base:Nat} {e:TypeId} {bytes:Nat} (hT:ElemTy P t e r.n bytes) {F S:Nat→Prop} {w:World} {v u:Value} {xs ys:List α}
   (hs:a.eval s=v) (hx:a.eval x=u)
   (h:Own r base e F w v xs) (hu:Src r S w u ys) (hSF: ∀k,k<w.heap.size→S k→F k) (hSv: ∀k,v.ownBlock=some k→ ¬S k)
   (h63:xs.length+ys.length≤maxLen) (hbytes:(xs.length+ys.length)*bytes≤140737488355328) (hbase:base≤w.heap.size)
   (hK: ∀v' w',Own r base e (fun k=>F k∨w.heap.size≤k) w' v' (xs++ys)→Kept (fun k=>v.ownBlock≠some k) w w'→(v'.ownBlock=v.ownBlock∨v'.ownBlock=some w.heap.size)→wpList P ops Q rest (a.put o.dst v') w'):
   wpList P ops Q (o::rest) a w:=
 wpList_plain hgd fun _ hK'=>wp_append_rel s x ho hT hs hx h hu hSF hSv h63 hbytes hbase fun v' w' h2 h3 h4=>hK' _ _ (hK v' w' h2 h3 h4)
theorem step_append_rel {P:Program} {ops:Array Oper} {o:Oper} {a:Act} {K:Act→World→Prop} {Q:Exit→Act→World→Prop} {E:Prop} (hgd:o.guard=none) (s x:Operand) {t:TypeId}
   (ho:o.op= .call { callee:= .builtin .append,args:= #[s,x],argTypes:= #[t,t] }) {α:Type} {r:Rep α} {base:Nat} {e:TypeId} {bytes:Nat} (hT:ElemTy P t e r.n bytes) {F S:Nat→Prop} {w:World} {v u:Value} {xs ys:List α}
   (hs:a.eval s=v) (hx:a.eval x=u)
   (h:Own r base e F w v xs) (hu:Src r S w u ys) (hSF: ∀k,k<w.heap.size→S k→F k) (hSv: ∀k,v.ownBlock=some k→ ¬S k)
   (h63:xs.length+ys.length≤maxLen) (hbytes:(xs.length+ys.length)*bytes≤140737488355328) (hbase:base≤w.heap.size)
   (hK: ∀v' w',Own r base e (fun k=>F k∨w.heap.size≤k) w' v' (xs++ys)→Kept (fun k=>v.ownBlock≠some k) w w'→(v'.ownBlock=v.ownBlock∨v'.ownBlock=some w.heap.size)→K (a.put o.dst v') w'):
   if Region.wanted o (yielded ops a.tmps)=true then Oper.wp P o a w K Q else E:=by
 have hw:Region.wanted o (yielded ops a.tmps)=true:=by simp [Region.wanted,hgd]
 rw [if_pos hw]
 exact wp_append_rel s x ho hT hs hx h hu hSF hSv h63 hbytes hbase hK
theorem Own.empty {α:Type}(r:Rep α)(base:Nat)(e:TypeId){w:World}{b:Nat}(hb:w.heap[b]? =some (.cells #[] e (0,0)))(hbase:base≤b):Own r base e (fun k=>k=b) w (.slice (some ⟨b,0,none⟩) 0 0) []:=
 ⟨fun _=>False,[],fun _ h=>h.elim,fun k h=>⟨fun h=>h,by simpa [Value.ownBlock,eq_comm]using h⟩,rfl,fun i cs x h=>by simp at h,
  ⟨by simp,.inr ⟨b,0,#[],rfl,hbase,hb,Nat.le_refl _,by unfold maxLen;omega,by simp,by simp⟩⟩⟩
def Plain {α:Type}(r:Rep α):Prop:= ∀ {S S':Nat→Prop} {w w':World} {cs:List Value} {x:α},r.rel S w cs x→r.rel S' w' cs x
theorem Plain.int (k:IntKind):Plain (intR k):=fun h=>h
theorem Plain.bool:Plain boolR:=fun h=>h
theorem Plain.pair {α β:Type}{r:Rep α}{s:Rep β}(hr:Plain r)(hs:Plain s):Plain (pairR r s):=by
 rintro S S' w w' cs x ⟨c1,c2,rfl,h1,h2⟩;exact⟨c1,c2,rfl,hr h1,hs h2⟩
theorem Src.plain {α:Type}{r:Rep α}(hp:Plain r){S S':Nat→Prop}{w:World}{u:Value}{ys:List α}(h:Src r S w u ys):Src r S' w u ys:=by
 obtain⟨css,a,cap,h1,h2,h3,h4,h5⟩:=h
 exact⟨css,a,cap,h1,h2,h3,fun i cs y hc hy=>hp (h4 i cs y hc hy),h5⟩
theorem Kept.behind {S:Nat→Prop}{B:Nat}{a b c:World}(h:Below B a b)(hk:Kept S b c)(hB:B≤b.heap.size)(hS: ∀k,k<B→S k):Below B a c:=
 h.trans (Kept.below (hk.mono fun k _ h=>hS k h) hB)
def GivesS {α:Type}(r:Rep α)(F:Nat→Prop)(xs:List α)(w:World)(e:Ending)(w':World):Prop:=
 ∃a cap,e= .returned (.slice a xs.length cap)∧(sliceR r).rel F w' [.slice a xs.length cap] xs∧Below w.heap.size w w'
theorem GivesS.mk {α:Type}{r:Rep α}{F:Nat→Prop}{xs:List α}{w w':World}{v:Value}(h:(sliceR r).rel F w' [v] xs)(hb:Below w.heap.size w w'):GivesS r F xs w (.returned v) w':=by
 obtain⟨a,cap,rfl,_⟩:=sliceR.form h
 exact⟨a,cap,rfl,h,hb⟩
theorem box_after {W w1:World}{b:Nat}{o:Obj}(hb:Below W.heap.size W w1)(h:W.heap[b]? =some o):w1.heap[b]? =some o:=by
 rw [hb.block b (Array.getElem?_eq_some_iff.1 h).1,h]
theorem box_kept {S:Nat→Prop}{W w1:World}{b:Nat}{o:Obj}(hk:Kept S W w1)(h:W.heap[b]? =some o)(hS:S b):w1.heap[b]? =some o:=by
 rw [hk.block b (Array.getElem?_eq_some_iff.1 h).1 hS,h]
theorem box_new (w:World)(o:Obj):(w.alloc o).heap[w.heap.size]? =some o:=heap_alloc_new w o
theorem box_old {w:World}{b:Nat}{o o':Obj}(h:w.heap[b]? =some o):(w.alloc o').heap[b]? =some o:=by
 have hlt:=(Array.getElem?_eq_some_iff.1 h).1;rw [Below.heap_alloc w o' b hlt,h]
theorem box_set {w:World}{b i:Nat}{cs:Array Value}{t:TypeId}{fr:Nat×Nat}{v:Value}(h:w.heap[b]? =some (.cells cs t fr)):(w.setCell ⟨b,i,none⟩ v).heap[b]? =some (.cells (cs.setIfInBounds i v) t fr):=by
 simp [World.setCell,Array.getElem?_modify,h]
theorem box_set_far {w:World}{b:Nat}{p:Addr}{o:Obj}{v:Value}(h:w.heap[b]? =some o)(hp:b≠p.block):(w.setCell p v).heap[b]? =some o:=by
 rw [Below.heap_setCell w p v b hp,h]
theorem box_cells {w:World}{b:Nat}{cs:Array Value}{t:TypeId}(h:w.heap[b]? =some (.cells cs t (0,0))):(∀i,w.cell? ⟨b,i,none⟩=cs[i]?)∧(∀i,w.frozen? ⟨b,i,none⟩=false):=
 ⟨fun i=>by simp [World.cell?,h],fun i=>by simp [World.frozen?,h]⟩
theorem box_lt {w:World}{b:Nat}{o:Obj}(h:w.heap[b]? =some o):b<w.heap.size:=(Array.getElem?_eq_some_iff.1 h).1
theorem bdrewN {B:Nat}{a w:World}(h:Below B a w)(n:Nat):Below B a (w.drewN n):=⟨h.os,h.tape,h.output,h.size,h.block⟩
theorem Own.lt {α:Type}{r:Rep α}{base:Nat}{e:TypeId}{F:Nat→Prop}{w:World}{v:Value}{xs:List α}(h:Own r base e F w v xs){k:Nat}(hk:v.ownBlock=some k):k<w.heap.size∧F k∧base≤k:=by
 obtain⟨S,css,hS,hv,hl,hr,ho⟩:=h
 exact⟨(ho.lt k hk).2,(hv k hk).2,(ho.lt k hk).1⟩
theorem CellsAt.new (w:World)(cs:List Value)(t:TypeId):CellsAt (w.alloc (.cells cs.toArray t)) w.heap.size 0 cs:=fun j c hj=>by
 rw [(box_cells (box_new w (.cells cs.toArray t))).1];simpa using hj
theorem wpList_make_rel {P:Program} {w:World} {ops:Array Oper} {rest:List Oper} {o:Oper} {a:Act} {Q:Exit→Act→World→Prop} (hg:o.guard=none) (l c:Operand) {t:TypeId} (hop:o.op=Op.makeSlice t l c)
   {α:Type} (r:Rep α) (base:Nat) {e:TypeId} {bytes:Nat} (hT:ElemTy P t e r.n bytes) {kl kc:IntKind} {C:Int} {n:Nat} (hl:a.eval l= .int kl 0) (hc:a.eval c= .int kc C) (hC:C=(n:Int))
   (b2:bytes*n≤281474976710656) (b3:n≤maxLen) (b4:base≤w.heap.size)
   (hK: ∀w',Own r base e (fun k=>k=w.heap.size) w' (.slice (some ⟨w.heap.size,0,none⟩) 0 n) []→Below w.heap.size w w'→wpList P ops Q rest (a.put o.dst (.slice (some ⟨w.heap.size,0,none⟩) 0 n)) w'):
   wpList P ops Q (o::rest) a w:=by
 obtain⟨ht,hn,i,z,hi,hz,hsize,hby,hzs⟩:=hT
 refine wpList_make_own w hg l c t hop base e i z r.n ht hi hz hsize kl kc C n hl hc hC (by rw [hby];exact b2) b3 b4 fun w' ho hgr=>hK w' ?_ ?_
 · exact⟨fun _=>False,[],fun _ h=>h.elim,fun k h=>⟨fun h=>h,by simpa [Value.ownBlock,eq_comm]using h⟩,rfl,fun i cs x h=>by simp at h,by simpa using ho⟩
 · exact⟨hgr.os,hgr.tape,hgr.output,hgr.size,fun k hk=>hgr.block k hk (by simp)⟩
end Go.Proofs.YtjknlhiimmbilaaGreatDoor
/- Rows in place: deleting, clearing, storing an element. Nothing of the program is named here; no conditions. -/
set_option maxRecDepth 100000
namespace Go.Proofs.YtjknlhiimmbilaaGreatDoor
open Go.ChangeShapes Go.WideShapes Go.ChangeAt Go.RowKit
theorem flatten_take {β:Type}{n:Nat}: ∀(css:List (List β)),(∀cs∈css,cs.length=n)→ ∀k,(css.take k).flatten=css.flatten.take (k*n)
 | [],_,k=>by simp
 |d::css,hl,0=>by simp
 |d::css,hl,k+1=>by
  have hd:d.length=n:=hl d (by simp)
  rw [List.take_succ_cons,List.flatten_cons,flatten_take css (fun cs hc=>hl cs (by simp [hc])) k,List.flatten_cons,Nat.succ_mul,List.take_append,hd]
  rw [List.take_of_length_le (l:=d) (by omega)]
  congr 2;omega
theorem flatten_drop {β:Type}{n:Nat}: ∀(css:List (List β)),(∀cs∈css,cs.length=n)→ ∀k,(css.drop k).flatten=css.flatten.drop (k*n)
 | [],_,k=>by simp
 |d::css,hl,0=>by simp
 |d::css,hl,k+1=>by
  have hd:d.length=n:=hl d (by simp)
  rw [List.drop_succ_cons,flatten_drop css (fun cs hc=>hl cs (by simp [hc])) k,List.flatten_cons,Nat.succ_mul,List.drop_append,hd]
  rw [List.drop_of_length_le (l:=d) (by omega),List.nil_append]
  congr 1;omega
def Row {α:Type}(r:Rep α)(e:TypeId)(S:Nat→Prop)(w:World)(g cap:Nat)(xs:List α):Prop:=
 ∃(cur:Array Value) (css:List (List Value)),w.heap[g]? =some (.cells cur e (0,0))∧cur.size=cap*r.n∧css.length=xs.length∧
  (∀(i:Nat) (cs:List Value) (x:α),css[i]? =some cs→xs[i]? =some x→r.rel S w cs x)∧cur.toList.take (xs.length*r.n)=css.flatten∧xs.length≤cap∧ ¬S g∧ ∀k,S k→k<w.heap.size
theorem Own.row {α:Type}{r:Rep α}{base:Nat}{e:TypeId}{F:Nat→Prop}{w:World}{g n cap:Nat}{xs:List α}(h:Own r base e F w (.slice (some ⟨g,0,none⟩) n cap) xs):
   n=xs.length∧base≤g∧cap≤maxLen∧F g∧ ∃S,(∀k,S k→F k)∧Row r e S w g cap xs:=by
 obtain⟨S,css,hS,hv,hl,hr,ho⟩:=h
 rcases ho.2 with⟨h1, -⟩|⟨g',cap',cur,h1,hb,hg,h2,h3,h4,h5⟩
 · simp at h1
 · simp at h1
   obtain⟨rfl,rfl,rfl⟩:=h1
   exact⟨rfl,hb,h3,(hv g rfl).2,S,fun k hk=>(hS k hk).1,cur,css,hg,h4,hl,hr,h5,h2,(hv g rfl).1,fun k hk=>(hS k hk).2⟩
theorem Row.own {α:Type}{r:Rep α}{base:Nat}{e:TypeId}{F S:Nat→Prop}{w:World}{g cap:Nat}{xs:List α}(h:Row r e S w g cap xs)(hSF: ∀k,S k→F k)(hF:F g)(hb:base≤g)(hc:cap≤maxLen):
   Own r base e F w (.slice (some ⟨g,0,none⟩) xs.length cap) xs:=by
 obtain⟨cur,css,hg,h4,hl,hr,h5,h2,hng,hS⟩:=h
 refine⟨S,css,fun k hk=>⟨hSF k hk,hS k hk⟩,fun k hk=> ?_,hl,hr,?_,.inr ⟨g,cap,cur,rfl,hb,hg,h2,hc,h4,h5⟩⟩
 · simp [Value.ownBlock]at hk;subst hk;exact⟨hng,hF⟩
 · rw [flatten_len (all_len hl hr),hl]
theorem Row.lt {α:Type}{r:Rep α}{e:TypeId}{S:Nat→Prop}{w:World}{g cap:Nat}{xs:List α}(h:Row r e S w g cap xs):g<w.heap.size:=by
 obtain⟨cur,css,hg, -⟩:=h
 exact box_lt hg
theorem Row.slice {α:Type}{r:Rep α}{e:TypeId}{S:Nat→Prop}{w:World}{g cap:Nat}{xs:List α}(h:Row r e S w g cap xs)(hc:cap≤maxLen):(sliceR r).rel (fun k=>S k∨k=g) w [.slice (some ⟨g,0,none⟩) xs.length cap] xs:=
 (h.own (F:=fun k=>S k∨k=g) (base:=0) (fun _ h=> .inl h) (.inr rfl) (Nat.zero_le _) hc).slice
theorem kept_setRow (w:World)(g:Nat)(cs:Array Value):Kept (fun k=>k≠g) w (w.setRow g cs):=
 ⟨rfl,rfl,rfl,by simp,fun k _ hk=>setRow_other w g k cs hk⟩
theorem Row.rewrite {α:Type} {r:Rep α} {e:TypeId} {S:Nat→Prop} {w:World} {g cap:Nat} {ys:List α} {css:List (List Value)} {cur:Array Value} (hg:w.heap[g]? =some (.cells cur e (0,0))) (hng: ¬S g) (hS: ∀k,S k→k<w.heap.size)
   (hl:css.length=ys.length) (hr: ∀(i:Nat) (cs:List Value) (x:α),css[i]? =some cs→ys[i]? =some x→r.rel S w cs x) (cur':List Value) (h4:cur'.length=cap*r.n) (h5:cur'.take (ys.length*r.n)=css.flatten) (h2:ys.length≤cap):
   Row r e S (w.setRow g cur'.toArray) g cap ys:=
 ⟨cur'.toArray,css,setRow_heap w g cur _ e _ hg,by simpa using h4,hl,fun i cs x hc hx=>r.keep (hr i cs x hc hx) ((kept_setRow w g _).mono fun k _ hk he=>hng (he▸hk)),by simpa using h5,h2,hng,fun k hk=>by simpa using hS k hk⟩
theorem setCells_setRow (g:Nat)(e:TypeId): ∀(vs:List Value) (o:Nat) (w:World) (cur:Array Value),w.heap[g]? =some (.cells cur e (0,0))→o+vs.length≤cur.size→
   w.setCells g o vs=w.setRow g (cur.toList.take o++vs++cur.toList.drop (o+vs.length)).toArray
 | [],o,w,cur,hg,_=>by simp [World.setCells,setRow_self w g cur e (0,0) hg]
 |v::vs,o,w,cur,hg,hlt=>by
  simp only [List.length_cons]at hlt
  rw [World.setCells,setCells_setRow g e vs (o+1) (w.setCell ⟨g,o,none⟩ v) (cur.setIfInBounds o v) (box_set hg) (by simp;omega)]
  have hw: ∀cs:Array Value,(w.setCell ⟨g,o,none⟩ v).setRow g cs=w.setRow g cs:=by
    intro cs
    simp only [World.setRow,World.setCell]
    congr 1
    apply Array.ext_getElem?
    intro j
    simp only [Array.getElem?_modify]
    split
    · rename_i hj;subst hj;rw [hg];simp
    · rfl
  rw [hw]
  congr 2
  rw [Array.toList_setIfInBounds]
  have hcl:cur.toList.length=cur.size:=by simp
  generalize cur.toList=L at*
  have e1:(L.set o v).take (o+1)=L.take o++ [v]:=by
    rw [List.set_eq_take_append_cons_drop,if_pos (by omega),List.take_append,List.take_of_length_le (by simp;omega),List.length_take,Nat.min_eq_left (by omega),Nat.add_sub_cancel_left]
    simp
  rw [e1,List.drop_set_of_lt (by omega),List.append_assoc (L.take o),List.singleton_append]
  congr 2
  simp only [List.length_cons];omega
theorem Row.store {α:Type}{r:Rep α}{e:TypeId}{S:Nat→Prop}{w:World}{g cap:Nat}{xs:List α}(h:Row r e S w g cap xs)(i:Nat)(hi:i<xs.length){es:List Value}{x:α}(hx:r.rel S w es x):
   Row r e S (w.setCells g (i*r.n) es) g cap (xs.set i x)∧Kept (fun k=>k≠g) w (w.setCells g (i*r.n) es):=by
 obtain⟨cur,css,hg,h4,hl,hr,h5,h2,hng,hS⟩:=h;have hel:=r.len hx;have hall:=all_len hl hr;have hile:(i+1)*r.n≤xs.length*r.n:=Nat.mul_le_mul_right _ hi;have hsz:xs.length*r.n≤cap*r.n:=Nat.mul_le_mul_right _ h2
 have hcl:cur.toList.length=cap*r.n:=by simpa using h4
 rw [Nat.succ_mul]at hile
 rw [setCells_setRow g e es (i*r.n) w cur hg (by rw [h4,hel];omega)]
 refine⟨Row.rewrite (css:=css.set i es) hg hng hS (by simp [hl]) ?_ _ ?_ ?_ (by simpa using h2),kept_setRow w g _⟩
 · intro j cs y hc hy
   rw [List.getElem?_set]at hc hy
   by_cases hij:i=j
   · subst hij
     simp [hl,hi]at hc hy
     subst hc hy
     exact hx
   · rw [if_neg hij]at hc hy
     exact hr j cs y hc hy
 · simp only [List.length_append,List.length_take,List.length_drop,Array.length_toList,h4,hel]
   omega
 · rw [List.length_set,List.set_eq_take_append_cons_drop,if_pos (by omega),List.flatten_append,List.flatten_cons,flatten_take css hall,flatten_drop css hall,←h5,hel]
   rw [List.take_take,Nat.min_eq_left (by omega),List.append_assoc,List.take_append,List.take_take,Nat.min_eq_right (by omega)]
   congr 1
   rw [List.length_take,hcl,Nat.min_eq_left (by omega),List.take_append,List.take_of_length_le (by omega)]
   congr 1
   rw [hel,List.drop_take,Nat.succ_mul]
   congr 1
   omega
theorem Row.at {α:Type}{r:Rep α}{e:TypeId}{S:Nat→Prop}{w:World}{g cap:Nat}{xs:List α}(h:Row r e S w g cap xs)(i:Nat)(hi:i<xs.length):
   ∃es,r.rel S w es xs[i]∧CellsAt w g (i*r.n) es:=by
 obtain⟨cur,css,hg,h4,hl,hr,h5,h2,hng,hS⟩:=h
 have hcs:css[i]? =some (css[i]'(by omega)):=by simp [hl,hi]
 refine⟨css[i]'(by omega),hr i _ _ hcs (by simp [hi]),fun j c hj=> ?_⟩
 have:=flatten_at (all_len hl hr) i _ hcs j c hj;rw [(box_cells hg).1,←Array.getElem?_toList];rw [←h5,List.getElem?_take]at this
 split at this
 · exact this
 · simp at this
theorem Row.facts {α:Type}{r:Rep α}{e:TypeId}{S:Nat→Prop}{w:World}{g cap:Nat}{xs:List α}(h:Row r e S w g cap xs): ¬S g∧(∀k,S k→k<w.heap.size)∧xs.length≤cap:=by
 obtain⟨cur,css,hg,h4,hl,hr,h5,h2,hng,hS⟩:=h
 exact⟨hng,hS,h2⟩
end Go.Proofs.YtjknlhiimmbilaaGreatDoor
/- Arithmetic modulo the big prime, and long division by it, in plain numbers. Nothing of the program is named here. -/
set_option maxRecDepth 100000
namespace Go.Proofs.YtjknlhiimmbilaaGreatDoor
def addP (a b:Int):Int:=(a+b) % 18446744069414584321
def mulP (a b:Int):Int:=a*b % 18446744069414584321
def redP (a:Int):Int:=a % 18446744069414584321
def powP (a:Int)(e:Nat):Int:=a^e % 18446744069414584321
theorem addP_in (a b:Int):0≤addP a b∧addP a b<18446744069414584321:=by unfold addP;omega
theorem mulP_in (a b:Int):0≤mulP a b∧mulP a b<18446744069414584321:=by
 unfold mulP;generalize a*b=c;omega
theorem redP_in (a:Int):0≤redP a∧redP a<18446744069414584321:=by unfold redP;omega
theorem powP_in (a:Int)(e:Nat):0≤powP a e∧powP a e<18446744069414584321:=by
 unfold powP;generalize a^e=c;omega
theorem redP_small {a:Int}(h0:0≤a)(h1:a<18446744069414584321):redP a=a:=by unfold redP;omega
theorem addP_red (a b:Int):addP (redP a) (redP b)=addP a b:=by unfold addP redP;omega
theorem mulP_red (a b:Int):mulP (redP a) (redP b)=mulP a b:=by unfold mulP redP;exact(Int.mul_emod a b _).symm
theorem pow_emod (a n:Int): ∀e:Nat,(a % n)^e % n=a^e % n
 |0=>by rw [Int.pow_zero,Int.pow_zero]
 |e+1=>by
  rw [Int.pow_succ,Int.pow_succ,Int.mul_emod,pow_emod a n e,Int.emod_emod,←Int.mul_emod]
theorem powP_red (a:Int)(e:Nat):powP (redP a) e=powP a e:=by unfold powP redP;exact pow_emod a _ e
theorem pow_odd (r b:Int)(k:Nat)(hk:k % 2=1):mulP (mulP r b) (powP (mulP b b) (k / 2))=mulP r (powP b k):=by
 unfold mulP powP;rw [pow_emod,←Int.mul_emod,Int.mul_emod r,Int.emod_emod,←Int.mul_emod]
 have e:(b*b)^(k / 2)=b^(2*(k / 2)):=by rw [Int.pow_mul];congr 1;exact(Int.pow_succ b 1).symm▸by rw [Int.pow_one]
 have e2:b^k=b^(2*(k / 2))*b:=by rw [←Int.pow_succ];congr 1;omega
 rw [e,e2,Int.mul_comm (b^_) b,←Int.mul_assoc]
theorem pow_even (r b:Int)(k:Nat)(hk:k % 2=0):mulP r (powP (mulP b b) (k / 2))=mulP r (powP b k):=by
 unfold mulP powP;rw [pow_emod]
 have e:(b*b)^(k / 2)=b^(2*(k / 2)):=by rw [Int.pow_mul];congr 1;exact(Int.pow_succ b 1).symm▸by rw [Int.pow_one]
 rw [e,show 2*(k / 2)=k by omega]
theorem mulP_one {r:Int}(h0:0≤r)(h1:r<18446744069414584321)(b:Int):mulP r (powP b 0)=r:=by
 unfold mulP powP;rw [Int.pow_zero];omega
theorem powP_of (a:Int)(e:Nat):mulP 1 (powP a e)=powP a e:=by
 have:=powP_in a e
 unfold mulP;omega
def Guess (hi un q r:Int):Prop:=
 hi=q*4294967295+r∧0≤q∧((0≤r∧r<4294967295∧q≤4294967296)∨(r=4294967295∧q≤4294967295∧un≤q))
theorem Guess.start {hi un:Int}(h0:0≤hi)(h1:hi<18446744069414584321):Guess hi un (hi / 4294967295) (hi-hi / 4294967295*4294967295):=by
 unfold Guess;omega
theorem Guess.next {hi un q r:Int}(h:Guess hi un q r)(h1:hi<18446744069414584321)(hu:0≤un)(hu1:un<4294967296)(hc:4294967296≤q∨4294967296*r+un<q):Guess hi un (q-1) (r+4294967295)∧r+4294967295<4294967296∧1≤q∧r=0:=by
 unfold Guess at*;omega
theorem Guess.done {hi un q r:Int}(h:Guess hi un q r)(hu:0≤un)(hu1:un<4294967296)(h1:q<4294967296)(h2:q≤4294967296*r+un):
   (hi*4294967296+un)-q*18446744069414584321=4294967296*r+un-q∧0≤4294967296*r+un-q∧4294967296*r+un-q<18446744069414584321:=by
 unfold Guess at h;omega
theorem Guess.bounds {hi un q r:Int}(h:Guess hi un q r):0≤q∧q≤4294967296∧0≤r∧r≤4294967295:=by
 unfold Guess at h;omega
end Go.Proofs.YtjknlhiimmbilaaGreatDoor
/- Regions that draw their order: a head that only reads and allocates, then a tail in order. Nothing of the program is named here; no conditions. -/
set_option maxRecDepth 100000
namespace Go.Proofs.YtjknlhiimmbilaaGreatDoor
open Go.RowKit Go.Sort
section
variable {P:Program} {ops:Array Oper} {md:Region.Mode} {C:World→Prop}
def headQ (P:Program)(md:Region.Mode)(ops:Array Oper)(C:World→Prop)(n:Nat)(L:Array Bool→Act→Prop):Nat→Array Bool→Act→Prop
 |0,listed,a=>L listed a
 |f+1,listed,a=>Region.ready md ops listed≠ []∧ ∀i∈Region.ready md ops listed,i<n∧qOp P ops C i (headQ P md ops C n L f (listed.setIfInBounds i true)) a
theorem any_of_headQ {n g:Nat}{L:Array Bool→Act→Prop}{Q':Exit→Act→World→Prop}(hL: ∀listed a w,C w→L listed a→wpAny P md ops Q' g listed a w):
   ∀(f:Nat) (listed:Array Bool) (a:Act) (w:World),C w→headQ P md ops C n L f listed a→wpAny P md ops Q' (f+g) listed a w
 |0,listed,a,w,hw,h=>by rw [Nat.zero_add];exact hL _ _ _ hw h
 |f+1,listed,a,w,hw,h=>by
  rw [show f+1+g=(f+g)+1 by omega]
  exact⟨fun h0=>absurd h0 h.1,fun i hi=>wpOp_of_qOp hw (fun a' w' hw' h'=>any_of_headQ hL f _ a' w' hw' h') (h.2 i hi).2⟩
theorem headQ_first {n i:Nat} {oi:Oper} {v:Value} {L:Array Bool→Act→Prop} (hi:ops[i]? =some oi) (hsel: ∀(j:Nat) (o:Oper) cs b,ops[j]? =some o→o.op≠ .select cs b)
   (hs:Region.sinkB md ops n=true) (hc:Region.chainB md ops n=true) (hn:n<ops.size) (hin:i<n)
   (hdone: ∀listed a,L listed a→ ∀j∈Region.ready md ops listed,n≤j):
   ∀(f:Nat) (listed:Array Bool) (a:Act),HeadInv md ops n listed→
    (∀j oj,ops[j]? =some oj→j≠i→listed.getD j true=false→(∀e∈oj.after,Region.binds md e=true→e.on≠i)→oi.apart ops oj=true)→
    i∈Region.ready md ops listed→YieldsIn P ops C oi v a→
    headQ P md ops C n L f (listed.setIfInBounds i true) (a.put oi.dst v)→headQ P md ops C n L (f+1) listed a:=by
 have small: ∀(listed:Array Bool),HeadInv md ops n listed→i∈Region.ready md ops listed→ ∀j∈Region.ready md ops listed,j<n:=fun listed inv hr j hj=>by
   rcases Nat.lt_or_ge j n with h|h
   · exact h
   · exact absurd hj (tail_waits hs hc hn inv _ i rfl hin (mem_ready.1 hr).1 j h)
 intro f
 induction f with
 |zero=>
  intro listed a inv _ hr hy H
  refine⟨fun h=>(by rw [h]at hr;cases hr),fun j hj=>⟨small listed inv hr j hj,?_⟩⟩
  by_cases hji:j=i
  · subst hji;exact hy.qOp hi H
  · have h1:=hdone _ _ H j (ready_mono hj hji)
    have h2:=small listed inv hr j hj
    omega
 |succ f ih=>
  intro listed a inv hfree hr hy H
  have hun:=(mem_ready.1 hr).1
  refine⟨fun h=>(by rw [h]at hr;cases hr),fun j hj=>⟨small listed inv hr j hj,?_⟩⟩
  by_cases hji:j=i
  · subst hji;exact hy.qOp hi H
  · have h1:=(H.2 j (ready_mono hj hji)).2
    obtain⟨hjun,oj,hoj,hall⟩:=mem_ready.1 hj
    have hnot: ∀e∈oj.after,Region.binds md e=true→e.on≠i:=fun e he hb heq=>by
      have h1:=hall e he hb;rw [heq,getD_both hun]at h1
      cases h1
    have h2:=qOp_put hoj (hfree j oj hoj hji hjun hnot) (fun cs b=>hsel i oi cs b hi) (fun cs b=>hsel j oj cs b hoj) hy h1
    have hfree': ∀k ok,ops[k]? =some ok→k≠i→(listed.setIfInBounds j true).getD k true=false→
        (∀e∈ok.after,Region.binds md e=true→e.on≠i)→oi.apart ops ok=true:=fun k ok hk hki hun' hno=>by
      refine hfree k ok hk hki ?_ hno
      by_cases hjk:j=k
      · subst hjk;exact hjun
      · rw [getD_set_ne true hjk]at hun';exact hun'
    refine qOp_mono (fun a' h3=>ih (listed.setIfInBounds j true) a' (inv.set hj (small listed inv hr j hj)) hfree' (ready_mono hr (Ne.symm hji)) h3.1 ?_) h2
    rw [Array.setIfInBounds_comm _ _ hji]
    exact h3.2
theorem headQ_lex {n g:Nat}{Lq:Act→Prop}(hsel:Region.noSelect ops=true)(hs:Region.sinkB md ops n=true)(hc:Region.chainB md ops n=true)(hn:n<ops.size):
   ∀(l:List Oper) (k:Nat) (listed:Array Bool) (a:Act),(∀j,j<l.length→l[j]? =ops[k+j]?)→k+l.length=n→HeadInv md ops n listed→
   Region.lexHead md ops g l.length k listed=true→wpQuiet P ops C Lq l a→
   headQ P md ops C n (fun listed' a'=>Region.seqB md ops g n listed'=true∧Lq a') l.length listed a
 | [],k,listed,a,_,hk,_,hB,h=>by
   have:k=n:=by simpa using hk
   subst this
   exact⟨by simpa [Region.lexHead]using hB,h⟩
 |o::l,k,listed,a,hl,hk,inv,hB,h=>by
  have h0:ops[k]? =some o:=by simpa using(hl 0 (by simp)).symm
  simp only [List.length_cons,Region.lexHead,Bool.and_eq_true]at hB
  obtain⟨⟨hr,hf⟩,hB'⟩:=hB
  have hkn:k<n:=by simp only [List.length_cons]at hk;omega
  have hr':k∈Region.ready md ops listed:=by simpa using hr
  have hst:qOp P ops C k (wpQuiet P ops C Lq l) a:=by unfold qOp;simp only [h0];exact h
  obtain⟨v,hy,hK⟩:=yieldsIn_of_qOp h0 hst
  exact headQ_first h0 (Region.noSelect_spec hsel) hs hc hn hkn (fun listed' a' hL=>seqB_ready hL.1) l.length listed a inv (Region.free_spec h0 hf) hr' hy
    (headQ_lex hsel hs hc hn l (k+1) _ _ (fun j hj=>by have:=hl (j+1) (by simp;omega);simpa [Nat.add_assoc,Nat.add_comm 1 j]using this) (by simp only [List.length_cons]at hk;omega) (inv.set hr' hkn) hB' hK)
theorem wp_region_quiet_tail {id:Nat} {Q:Exit→Act→World→Prop} {a:Act} {w:World} {l:List Oper} (n:Nat) (hm:P.follows .mixedOrders=true) (hB:Region.lexTailB .any l.toArray n=true)
   (h:wpQuiet P l.toArray (fun w'=> ∃p:Regrown,w'=grow (redrawn w p.d) p.os) (fun a'=> ∀w',(∃p:Regrown,w'=grow (redrawn w p.d) p.os)→wpList P l.toArray Q (l.drop n) a' w') (l.take n) a):(Code.region id l.toArray true).wp P Q a w:=by
 simp only [Region.lexTailB,Bool.and_eq_true,decide_eq_true_eq]at hB
 obtain⟨⟨⟨⟨hsel,hn⟩,hs⟩,hc⟩,hlex⟩:=hB
 have hn':n<l.length:=by simpa using hn
 have htl:(l.take n).length=n:=by simp;omega
 have hdl:(l.drop n).length=l.toArray.size-n:=by simp
 have inv0:HeadInv .any l.toArray n (Array.replicate l.toArray.size false):=
   ⟨by simp,fun j oj _ hl=>(by rw [getD_replicate_false]at hl;cases hl),fun t _ ht=>getD_in (by simpa using ht) (getD_replicate_false _ _)⟩
 have H:=headQ_lex (md:= .any) (g:=l.toArray.size-n) hsel hs hc hn (l.take n) 0 _ a (fun j hj=>by
   have hj':j<n:=by rw [htl]at hj;exact hj
   simp [hj']) (by simpa using htl) inv0 (by rw [htl];exact hlex) h
 refine wp_region_any hm ?_
 have:=any_of_headQ (Q':=Q) (g:=l.toArray.size-n) (fun listed a' w' hw' hL=>by
   have:=wpAny_of_seq (md:= .any) (Q':=Q) (l.drop n) n listed a' w' (fun j=>by simp [List.getElem?_drop]) (by rw [hdl];exact hL.1) (hL.2 w' hw')
   rwa [hdl]at this) _ _ _ { w with drawn:=w.drawn+1 } ⟨⟨w.drawn+1,#[]⟩,by rw [grow_empty];rfl⟩ H
 rw [htl,show n+(l.toArray.size-n)=l.toArray.size by omega]at this
 exact this
end
theorem box_regrown {w:World}{b:Nat}{cs:Array Value}{t:TypeId}(h:w.heap[b]? =some (.cells cs t (0,0))): ∀(d:Nat) (os:Array Obj) (i:Nat),(grow (redrawn w d) os).cell? ⟨b,i,none⟩=cs[i]? :=
 fun d os i=>(box_cells (box_after (below_regrown w d os) h)).1 i
theorem cell_in {w:World}{a:Addr}{v:Value}(h:w.cell? a=some v): ∀(d:Nat) (os:Array Obj),(grow (redrawn w d) os).cell? a=some v:=fun d os=>cell_regrown h d os
end Go.Proofs.YtjknlhiimmbilaaGreatDoor
/- From a reading of an argument to a representation. Nothing of the program is named here; no conditions. -/
set_option maxRecDepth 100000
namespace Go.Proofs.YtjknlhiimmbilaaGreatDoor
open Go.ChangeShapes Go.WideShapes Go.ChangeAt Go.RowKit
def Reads {α:Type}(H:Type)(enc:TypeId×Value→H)(P:Program)(W:World)(r:Rep α)(t:TypeId):Prop:=
 ∀(fuel:Nat) (cs:List Value) (x:DataW H×List MemPlace),DataW.trod enc P W 0 (fun _=>true) true fuel t cs=some x→ ∃a,r.rel (fun k=>k<W.heap.size) W cs a
section
variable {H:Type} {enc:TypeId×Value→H} {P:Program} {W:World}
theorem Reads.int {k:IntKind}{t:TypeId}(ht:P.underlying t=some (.int k)):Reads H enc P W (intR k) t:=by
 intro fuel cs x h
 obtain⟨n,rfl, -,hw⟩:=DataW.trod_int ht h
 exact⟨n,rfl,hw⟩
theorem Reads.slice {α:Type}{r:Rep α}{t e:TypeId}(hr:Reads H enc P W r e)(ht:P.underlying t=some (.slice e))(hn:P.cellsOf e=r.n)(h0:0<r.n):Reads H enc P W (sliceR r) t:=by
 intro fuel cs x h
 rcases DataW.trod_slice ht h with⟨rfl, -⟩|⟨a,len,cap,elems,rest,n, -,rfl, -, -,hl,hm,hel,hat, -⟩
 · exact⟨[],sliceR.nil⟩
 · rw [hn]at hat
   obtain⟨xs,hxl,hxs⟩:=exists_list (Q:=fun i (y:α)=> ∃es,W.cells? 0 (a.add (i*r.n)) r.n=some es∧r.rel (fun k=>k<W.heap.size) W es y) len (by
     intro i hi
     have h1:=hat i hi
     have h2:elems[i]? =some (elems[i]'(by omega)):=by simp [hel,hi]
     rw [h2,Option.bind_eq_some_iff]at h1;obtain⟨es,h3,h4⟩:=h1;obtain⟨y,hy⟩:=hr n es _ h4
     exact⟨y,es,h3,hy⟩)
   refine⟨xs,some a,len,cap,rfl,hxl.symm,hl,hm,fun h=>by simp at h,fun i y hy=> ?_⟩
   obtain⟨es,h3,h4⟩:=hxs i y hy;obtain⟨-,h5,h6⟩:=World.cells?_some h3;have hc0:=h6 0 h0;have hes:es.length=r.n:=r.len h4
   have he0:es[0]? =some (es[0]'(by omega)):=by simp [hes,h0]
   rw [he0]at hc0
   have hsp:a.spot=none:=by
     have hi:i<xs.length:=(List.getElem?_eq_some_iff.1 hy).1
     obtain⟨es',h3',h4'⟩:=hxs 0 (xs[0]'(by omega)) (by simp)
     obtain⟨-, -,h6'⟩:=World.cells?_some h3';have hc:=h6' 0 h0;have hes':es'.length=r.n:=r.len h4'
     have he':es'[0]? =some (es'[0]'(by omega)):=by simp [hes',h0]
     rw [he',Nat.zero_mul]at hc
     exact World.cell?_spot hc
   obtain⟨b,o,sp⟩:=a
   simp only at hsp
   subst hsp
   refine⟨b,o,es,rfl,?_,h4,fun j c hj=> ?_,?_⟩
   · rw [Addr.add_lit,Addr.add_lit]at hc0;exact cell_lt hc0
   · have hj':j<r.n:=by rw [←hes];exact(List.getElem?_eq_some_iff.1 hj).1
     have:=h6 j hj';rw [Addr.add_lit,Addr.add_lit,hj]at this
     exact this
   · rw [Addr.add_lit,Addr.add_lit]at hc0;exact cell_lt hc0
def FieldsRead (Q:TypeId→Nat→Prop):List Field→Prop
 | []=>True
 |f::fs=>Q f.type f.offset∧FieldsRead Q fs
theorem fieldsRead_of (Q:TypeId→Nat→Prop): ∀(fs:List Field),(∀(i:Nat) (f:Field),fs[i]? =some f→Q f.type f.offset)→FieldsRead Q fs
 | [],_=>trivial
 |f::fs,h=>⟨h 0 f rfl,fieldsRead_of Q fs fun i g hg=>h (i+1) g (by simpa using hg)⟩
theorem trod_fields {base:Nat} {sp:Nat→Bool} {held:Bool} {fuel:Nat} {t:TypeId} {cs:List Value} {x:DataW H×List MemPlace} {fs:List Field}
   (ht:P.underlying t=some (.struct fs.toArray)) (h:DataW.trod enc P W base sp held fuel t cs=some x):
   cs.length=P.cellsOf t∧ ∃n,FieldsRead (fun u o=> ∃y,DataW.trod enc P W base sp held n u ((cs.drop o).take (P.cellsOf u))=some y) fs:=by
 obtain⟨xs,n, -, -,hl,hxl,hfs⟩:=DataW.trod_struct ht h
 refine⟨hl,n,fieldsRead_of _ fs fun i f hf=> ?_⟩
 have hi:i<xs.length:=by
   rw [hxl];have:=(List.getElem?_eq_some_iff.1 hf).1
   simpa using this
 exact⟨xs[i],by rw [hfs i f (by simpa using hf)];simp [hi]⟩
theorem Reads.four {α β γ δ:Type} {r0:Rep α} {r1:Rep β} {r2:Rep γ} {r3:Rep δ} {t t0 t1 t2 t3:TypeId} {f0 f1 f2 f3:Field} (ht:P.underlying t=some (.struct #[f0,f1,f2,f3])) (hc:P.cellsOf t=4)
   (h0:f0.type=t0∧f0.offset=0) (h1:f1.type=t1∧f1.offset=1) (h2:f2.type=t2∧f2.offset=2) (h3:f3.type=t3∧f3.offset=3)
   (c0:P.cellsOf t0=1) (c1:P.cellsOf t1=1) (c2:P.cellsOf t2=1) (c3:P.cellsOf t3=1)
   (k0:Reads H enc P W r0 t0) (k1:Reads H enc P W r1 t1) (k2:Reads H enc P W r2 t2) (k3:Reads H enc P W r3 t3):Reads H enc P W (pairR r0 (pairR r1 (pairR r2 r3))) t:=by
 intro fuel cs x h
 obtain⟨hl,n,⟨y0,g0⟩,⟨y1,g1⟩,⟨y2,g2⟩,⟨y3,g3⟩, -⟩:=trod_fields (fs:= [f0,f1,f2,f3]) ht h;rw [hc]at hl
 match cs,hl with
 | [v0,v1,v2,v3],_=>
   rw [h0.1,h0.2,c0]at g0;rw [h1.1,h1.2,c1]at g1;rw [h2.1,h2.2,c2]at g2;rw [h3.1,h3.2,c3]at g3;obtain⟨a0,r0'⟩:=k0 n _ _ g0;obtain⟨a1,r1'⟩:=k1 n _ _ g1;obtain⟨a2,r2'⟩:=k2 n _ _ g2;obtain⟨a3,r3'⟩:=k3 n _ _ g3
   exact⟨(a0,a1,a2,a3),[v0],[v1,v2,v3],rfl,r0',[v1],[v2,v3],rfl,r1',[v2],[v3],rfl,r2',r3'⟩
end
end Go.Proofs.YtjknlhiimmbilaaGreatDoor
/- Pushing one element onto an owned row. Nothing of the program is named here; no conditions. -/
set_option maxRecDepth 100000
namespace Go.Proofs.YtjknlhiimmbilaaGreatDoor
open Go.ChangeShapes Go.WideShapes Go.ChangeAt Go.RowKit
theorem wpList_push {P:Program} {ops:Array Oper} {rest:List Oper} {o:Oper} {a:Act} {Q:Exit→Act→World→Prop} (hgd:o.guard=none) (s x:Operand) {t:TypeId}
   (ho:o.op= .call { callee:= .builtin .append,args:= #[s,x],argTypes:= #[t,t] }) {α:Type} {r:Rep α} {e:TypeId} {bytes:Nat} (hT:ElemTy P t e r.n bytes) {S T:Nat→Prop} {B:Nat} {w0 wr:World} {v:Value} {xs:List α} {es:List Value} {y:α}
   (hs:a.eval s=v) (hx:a.eval x= .slice (some ⟨wr.heap.size,0,none⟩) 1 1)
   (hbr:Below B w0 wr) (hB:B≤wr.heap.size) (hor:Own r B e (fun x=>S x∨B≤x) wr v xs) (hy:r.rel T wr es y) (hTS: ∀k,T k→(S k∨B≤k)∧v.ownBlock≠some k)
   (h63:xs.length+1≤maxLen) (hbytes:(xs.length+1)*bytes≤140737488355328)
   (hK: ∀v' w',Own r B e (fun x=>S x∨B≤x) w' v' (xs++ [y])→Below B w0 w'→wpList P ops Q rest (a.put o.dst v') w'):
   wpList P ops Q (o::rest) a (wr.alloc (.cells es.toArray e)):=by
 have hbn:=bnew (Below.refl wr.heap.size wr) (.cells es.toArray e)
 refine wpList_append_rel (ys:= [y]) hgd s x ho hT hs hx (hor.keepB hbn) (Src.one (r.keepB hy hbn) (CellsAt.new wr es e)) (fun k _ hk=>(hTS k hk).1) (fun k hk h=>(hTS k h).2 hk) h63 hbytes (by simp;omega) fun v' w' ho' hk' _=>hK v' w' ?_ ?_
 · refine ho'.mono fun k _ h=> ?_
   rcases h with h|h
   · exact h
   · simp at h;exact .inr (by omega)
 · exact Kept.behind (hbr.trans (hbn.mono hB)) hk' (by simp;omega) fun k hk h=>by have:=(hor.lt h).2.2;omega
end Go.Proofs.YtjknlhiimmbilaaGreatDoor
/- Reading structs and arrays as representations. Nothing of the program is named here; no conditions. -/
set_option maxRecDepth 100000
namespace Go.Proofs.YtjknlhiimmbilaaGreatDoor
open Go.ChangeShapes Go.WideShapes Go.ChangeAt Go.RowKit
section
variable {H:Type} {enc:TypeId×Value→H} {P:Program} {W:World}
theorem Reads.bool {t:TypeId}(ht:P.underlying t=some .bool):Reads H enc P W boolR t:=by
 intro fuel cs x h
 obtain⟨n,rfl, -⟩:=DataW.trod_bool ht h
 exact⟨n,rfl⟩
theorem Reads.map {α β:Type}{r:Rep α}{t:TypeId}(g:α→β)(f:β→α)(hfg: ∀x,f (g x)=x)(h:Reads H enc P W r t):Reads H enc P W (mapR f r) t:=by
 intro fuel cs x hx
 obtain⟨a,ha⟩:=h fuel cs x hx
 exact⟨g a,by show r.rel _ _ _ (f (g a));rw [hfg];exact ha⟩
inductive FieldsBy (H:Type) (enc:TypeId×Value→H) (P:Program) (W:World):Nat→List Field→(α:Type)→Rep α→Prop
 |last {o:Nat} {f:Field} {α:Type} {r:Rep α} (ho:f.offset=o) (hc:P.cellsOf f.type=r.n) (hr:Reads H enc P W r f.type):FieldsBy H enc P W o [f] α r
 |more {o:Nat} {f:Field} {fs:List Field} {α β:Type} {r:Rep α} {s:Rep β} (ho:f.offset=o) (hc:P.cellsOf f.type=r.n) (hr:Reads H enc P W r f.type) (h:FieldsBy H enc P W (o+r.n) fs β s):
    FieldsBy H enc P W o (f::fs) (α×β) (pairR r s)
theorem FieldsBy.read {o:Nat} {fs:List Field} {α:Type} {r:Rep α} (h:FieldsBy H enc P W o fs α r) {n:Nat} {cs:List Value} (hl:cs.length=o+r.n)
   (hf:FieldsRead (fun u o=> ∃y,DataW.trod enc P W 0 (fun _=>true) true n u ((cs.drop o).take (P.cellsOf u))=some y) fs): ∃a,r.rel (fun k=>k<W.heap.size) W (cs.drop o) a:=by
 induction h with
 |last ho hc hr=>
  obtain⟨⟨y,hy⟩, -⟩:=hf
  rw [ho,hc,List.take_of_length_le (by rw [List.length_drop];omega)]at hy
  exact hr n _ _ hy
 | @more o f fs α β r s ho hc hr h ih=>
   obtain⟨⟨y,hy⟩,hf⟩:=hf;have hl':cs.length=o+(r.n+s.n):=hl;rw [ho,hc]at hy;obtain⟨a,ha⟩:=hr n _ _ hy
   obtain⟨b,hb⟩:=ih (by omega) hf
   refine⟨(a,b),(cs.drop o).take r.n,cs.drop (o+r.n),?_,ha,hb⟩
   rw [←List.drop_drop,List.take_append_drop]
theorem Reads.struct {t:TypeId}{fs:List Field}{α:Type}{r:Rep α}(ht:P.underlying t=some (.struct fs.toArray))(hc:P.cellsOf t=r.n)(h:FieldsBy H enc P W 0 fs α r):Reads H enc P W r t:=by
 intro fuel cs x hx
 obtain⟨hl,n,hf⟩:=trod_fields ht hx
 have:=h.read (n:=n) (cs:=cs) (by rw [hl,hc];omega) hf
 simpa using this
theorem Reads.array2 {t e:TypeId}{α:Type}{r:Rep α}(ht:P.underlying t=some (.array 2 e))(hc:P.cellsOf t=r.n+r.n)(he:P.cellsOf e=r.n)(hr:Reads H enc P W r e):Reads H enc P W (pairR r r) t:=by
 intro fuel cs x hx
 obtain⟨xs,m, -, -,hl,hxl,hat⟩:=DataW.trod_array ht hx
 match xs,hxl with
 | [x0,x1],_=>
   have h0:=hat 0 (by omega)
   have h1:=hat 1 (by omega)
   rw [he]at h0 h1
   simp only [Nat.zero_mul,List.drop_zero,Nat.one_mul]at h0 h1
   obtain⟨a,ha⟩:=hr m _ x0 h0;obtain⟨b,hb⟩:=hr m _ x1 h1
   rw [List.take_of_length_le (by rw [List.length_drop,hl,hc];omega)]at hb
   exact⟨(a,b),_,_,(List.take_append_drop r.n cs).symm,ha,hb⟩
theorem open_rel_struct {α:Type} {r:Rep α} {t:TypeId} {fs:Array Field} {rc:Reach} {b0:Nat} {v:Value} {d:DataW H} {ps:List MemPlace} (ht:P.underlying t=some (.struct fs)) (hr:Reads H enc P W r t)
   (hv:Value.okWide P W rc b0 t v) (h:DataW.Trod enc P W 0 (fun _=>true) true t v d ps): ∃cs x,v= .agg cs∧r.rel (fun k=>k<W.heap.size) W cs.toList x:=by
 obtain⟨cs,rfl, -⟩:=okWide_struct ht hv;obtain⟨fuel,hf⟩:=h;obtain⟨x,hx⟩:=hr fuel _ _ hf
 exact⟨cs,x,rfl,hx⟩
theorem open_rel_slice {α:Type} {r:Rep α} {t e:TypeId} {rc:Reach} {b0:Nat} {v:Value} {d:DataW H} {ps:List MemPlace} (ht:P.underlying t=some (.slice e)) (hr:Reads H enc P W (sliceR r) t)
   (hv:Value.okWide P W rc b0 t v) (h:DataW.Trod enc P W 0 (fun _=>true) true t v d ps): ∃a cap xs,v= .slice a xs.length cap∧(sliceR r).rel (fun k=>k<W.heap.size) W [.slice a xs.length cap] xs:=by
 obtain⟨a,len,cap,rfl⟩:=okWide_slice ht hv;obtain⟨fuel,hf⟩:=h;obtain⟨xs,hx⟩:=hr fuel _ _ hf
 have hx':(sliceR r).rel (fun k=>k<W.heap.size) W [.slice a len cap] xs:=hx
 obtain⟨rfl, -⟩:=sliceR.lens hx'
 exact⟨a,cap,xs,rfl,hx'⟩
end
end Go.Proofs.YtjknlhiimmbilaaGreatDoor
/- Rows of numbers: made, copied, read. Nothing of the program is named here; no conditions. -/
set_option maxRecDepth 100000
namespace Go.Proofs.YtjknlhiimmbilaaGreatDoor
open Go.ChangeShapes Go.WideShapes Go.ChangeAt Go.RowKit
theorem flatten_ones {α β:Type}(f:α→β): ∀xs:List α,(xs.map fun x=> [f x]).flatten=xs.map f
 | []=>rfl
 |x::xs=>by simp [flatten_ones f xs]
theorem own_ints {k:IntKind} {base:Nat} {e:TypeId} {w:World} {g cap:Nat} {xs:List Int} {cur:List Value} (hg:w.heap[g]? =some (.cells cur.toArray e (0,0))) (hsz:cur.length=cap) (ht:cur.take xs.length=xs.map (Value.int k))
   (hwf: ∀x∈xs,(Lit.int k x).wf=true) (hle:xs.length≤cap) (hm:cap≤maxLen) (hb:base≤g):Own (intR k) base e (fun x=>False∨base≤x) w (.slice (some ⟨g,0,none⟩) xs.length cap) xs:=by
 refine Row.own (S:=fun _=>False) ⟨cur.toArray,xs.map (fun x=> [.int k x]),hg,by simp [hsz,intR],by simp,fun i cs x hc hx=> ?_,?_,hle,fun h=>h,fun _ h=>h.elim⟩ (fun _ h=>h.elim) (.inr hb) hb hm
 · rw [List.getElem?_map,hx]at hc
   simp at hc
   subst hc
   exact⟨rfl,hwf x (List.mem_of_getElem? hx)⟩
 · rw [flatten_ones]
   simpa [intR]using ht
theorem ints_cells {k:IntKind}{S:Nat→Prop}{w:World}{a:Option Addr}{len cap:Nat}{xs:List Int}(h:(sliceR (intR k)).rel S w [.slice a len cap] xs)(h0:0<xs.length):
   ∃ad,a=some ad∧ ∀j v,(xs.map (Value.int k))[j]? =some v→w.cell? (ad.add j)=some v:=by
 obtain⟨b,off,es,rfl, -, -, -, -⟩:=sliceR.at h 0 h0
 refine⟨_,rfl,fun j v hj=> ?_⟩
 rw [List.getElem?_map]at hj;obtain⟨x,hx,rfl⟩:=Option.map_eq_some_iff.1 hj;obtain⟨hjl,rfl⟩:=List.getElem?_eq_some_iff.1 hx;obtain⟨b',off',es,he, -, -,⟨rfl, -⟩,hca⟩:=sliceR.at h j hjl
 simp at he
 obtain⟨rfl,rfl⟩:=he;rw [Addr.add_lit];have:=hca 0 _ rfl
 simpa [intR]using this
theorem ints_wf {k:IntKind}{S:Nat→Prop}{w:World}{a:Option Addr}{len cap:Nat}{xs:List Int}(h:(sliceR (intR k)).rel S w [.slice a len cap] xs): ∀x∈xs,(Lit.int k x).wf=true:=by
 intro x hx
 obtain⟨j,hj,rfl⟩:=List.getElem_of_mem hx;obtain⟨b',off',es,he, -, -,⟨rfl,hw⟩,hca⟩:=sliceR.at h j hj
 exact hw
theorem wpList_make_lc {P:Program} {w:World} {ops:Array Oper} {rest:List Oper} {o:Oper} {a:Act} {Q:Exit→Act→World→Prop} (hg:o.guard=none) (l c:Operand) {t:TypeId} (hop:o.op=Op.makeSlice t l c)
   {e:TypeId} {bytes:Nat} (hT:ElemTy P t e 1 bytes) {kl kc:IntKind} {L C:Int} {n m:Nat} (hl:a.eval l= .int kl L) (hc:a.eval c= .int kc C) (hL:L=(n:Int)) (hC:C=(m:Int)) (hnm:n≤m)
   (b2:bytes*m≤281474976710656) (b3:m≤maxLen)
   (hK: ∀cur:List Value,cur.length=m→ ∀w',w'.heap[w.heap.size]? =some (.cells cur.toArray e (0,0))→Below w.heap.size w w'→w'.heap.size=w.heap.size+1→wpList P ops Q rest (a.put o.dst (.slice (some ⟨w.heap.size,0,none⟩) n m)) w'):
   wpList P ops Q (o::rest) a w:=by
 obtain⟨ht,hn,i,z,hi,hz,hsize,hby,hzs⟩:=hT
 refine wpList_plain hg fun K hK'=> ?_
 subst hL hC
 have h63:(m:Int)≤9223372036854775807:=by unfold maxLen at b3;omega
 have hb':(i.bytes:Int)*(m:Int)≤281474976710656:=by
   have h:((i.bytes*m:Nat):Int)≤281474976710656:=by rw [hby];omega
   rwa [Int.natCast_mul]at h
 have hr:=run_make (P:=P) w t e i z ht hi hz kl kc n m (by omega) (by omega) hb' h63
 simp only [Int.toNat_natCast,hsize,Nat.mul_one]at hr
 unfold Oper.wp
 simp [execOp,hop,hl,hc,hr,Result.andThen]
 refine hK' _ _ (hK (madeCells z.cells m).toList (by simp [size_madeCells]) _ ?_ (bnew (Below.refl _ _) _) (by simp))
 have:=box_new w (.cells (madeCells z.cells m) e)
 simpa using this
theorem wpList_make_cells {P:Program} {w:World} {ops:Array Oper} {rest:List Oper} {o:Oper} {a:Act} {Q:Exit→Act→World→Prop} (hg:o.guard=none) (l c:Operand) {t:TypeId} (hop:o.op=Op.makeSlice t l c)
   {e:TypeId} {bytes:Nat} (hT:ElemTy P t e 1 bytes) {z:Value} (hzz:(P.info? e).map (·.zero)=some (some z)) {kl kc:IntKind} {L C:Int} {n:Nat} (hl:a.eval l= .int kl L) (hc:a.eval c= .int kc C) (hL:L=(n:Int)) (hC:C=(n:Int))
   (b2:bytes*n≤281474976710656) (b3:n≤maxLen)
   (hK:wpList P ops Q rest (a.put o.dst (.slice (some ⟨w.heap.size,0,none⟩) n n)) (w.alloc (.cells (madeCells z.cells n).toList.toArray e))):
   wpList P ops Q (o::rest) a w:=by
 obtain⟨ht,hn,i,z',hi,hz,hsize,hby,hzs⟩:=hT
 obtain rfl:z'=z:=by rw [hi]at hzz;simp only [Option.map_some,Option.some.injEq]at hzz;rw [hz]at hzz;exact Option.some.inj hzz
 refine wpList_plain hg fun K hK'=> ?_
 subst hL hC
 have h63:(n:Int)≤9223372036854775807:=by unfold maxLen at b3;omega
 have hb':(i.bytes:Int)*(n:Int)≤281474976710656:=by
   have h:((i.bytes*n:Nat):Int)≤281474976710656:=by rw [hby];omega
   rwa [Int.natCast_mul]at h
 have hr:=run_make (P:=P) w t e i z' ht hi hz kl kc n n (by omega) (Int.le_refl _) hb' h63
 simp only [Int.toNat_natCast,hsize,Nat.mul_one]at hr
 unfold Oper.wp
 simp [execOp,hop,hl,hc,hr,Result.andThen]
 exact hK' _ _ (by simpa using hK)
end Go.Proofs.YtjknlhiimmbilaaGreatDoor
/- Appending a whole slice of numbers; storing one number into an owned row. Nothing of the program is named here; no conditions. -/
set_option maxRecDepth 100000
namespace Go.Proofs.YtjknlhiimmbilaaGreatDoor
open Go.ChangeShapes Go.WideShapes Go.ChangeAt Go.RowKit
theorem wpList_cat {P:Program} {ops:Array Oper} {rest:List Oper} {o:Oper} {a:Act} {Q:Exit→Act→World→Prop} (hgd:o.guard=none) (s x:Operand) {t:TypeId}
   (ho:o.op= .call { callee:= .builtin .append,args:= #[s,x],argTypes:= #[t,t] }) {k:IntKind} {e:TypeId} {bytes:Nat} (hT:ElemTy P t e 1 bytes) {S:Nat→Prop} {B:Nat} {w0 wr:World} {v u:Value} {xs ys:List Int}
   (hs:a.eval s=v) (hx:a.eval x=u)
   (hbr:Below B w0 wr) (hB:B≤wr.heap.size) (hor:Own (intR k) B e (fun x=>False∨B≤x) wr v xs) (hu:(sliceR (intR k)).rel S wr [u] ys)
   (h63:xs.length+ys.length≤maxLen) (hbytes:(xs.length+ys.length)*bytes≤140737488355328)
   (hK: ∀v' w',Own (intR k) B e (fun x=>False∨B≤x) w' v' (xs++ys)→Below B w0 w'→wpList P ops Q rest (a.put o.dst v') w'):
   wpList P ops Q (o::rest) a wr:=by
 refine wpList_append_rel (r:=intR k) (base:=B) (F:=fun x=>False∨B≤x) (S:=fun _=>False) (xs:=xs) (ys:=ys) hgd s x ho hT hs hx hor (Src.plain (Plain.int k) (Src.of_slice hu)) (fun _ _ h=>h.elim) (fun _ _ h=>h) h63 hbytes hB fun v' w' ho' hk' _=>hK v' w' ?_ ?_
 · refine ho'.mono fun j _ h=> ?_
   rcases h with h|h
   · exact h
   · exact .inr (Nat.le_trans hB h)
 · exact Kept.behind hbr hk' hB fun j hj he=>by
     have:=(hor.lt he).2.2
     omega
theorem wpList_catK {P:Program} {ops:Array Oper} {rest:List Oper} {o:Oper} {a:Act} {Q:Exit→Act→World→Prop} (hgd:o.guard=none) (s x:Operand) {t:TypeId}
   (ho:o.op= .call { callee:= .builtin .append,args:= #[s,x],argTypes:= #[t,t] }) {k:IntKind} {e:TypeId} {bytes:Nat} (hT:ElemTy P t e 1 bytes) {S:Nat→Prop} {B:Nat} {w0 wr:World} {v u:Value} {xs ys:List Int}
   (hs:a.eval s=v) (hx:a.eval x=u)
   (hbr:Below B w0 wr) (hB:B≤wr.heap.size) (hor:Own (intR k) B e (fun x=>False∨B≤x) wr v xs) (hu:(sliceR (intR k)).rel S wr [u] ys)
   (h63:xs.length+ys.length≤maxLen) (hbytes:(xs.length+ys.length)*bytes≤140737488355328)
   (hK: ∀v' w',Own (intR k) B e (fun x=>False∨B≤x) w' v' (xs++ys)→Below B w0 w'→Kept (fun j=>v.ownBlock≠some j) wr w'→(v'.ownBlock=v.ownBlock∨v'.ownBlock=some wr.heap.size)→wpList P ops Q rest (a.put o.dst v') w'):
   wpList P ops Q (o::rest) a wr:=by
 refine wpList_append_rel (r:=intR k) (base:=B) (F:=fun x=>False∨B≤x) (S:=fun _=>False) (xs:=xs) (ys:=ys) hgd s x ho hT hs hx hor (Src.plain (Plain.int k) (Src.of_slice hu)) (fun _ _ h=>h.elim) (fun _ _ h=>h) h63 hbytes hB fun v' w' ho' hk' hl'=>hK v' w' ?_ ?_ hk' hl'
 · refine ho'.mono fun j _ h=> ?_
   rcases h with h|h
   · exact h
   · exact .inr (Nat.le_trans hB h)
 · exact Kept.behind hbr hk' hB fun j hj he=>by
     have:=(hor.lt he).2.2
     omega
theorem Own.setInt {k:IntKind}{B:Nat}{e:TypeId}{F:Nat→Prop}{w:World}{v:Value}{xs:List Int}(h:Own (intR k) B e F w v xs)(i:Nat)(hi:i<xs.length):
   ∃g cap,v= .slice (some ⟨g,0,none⟩) xs.length cap∧xs.length≤cap∧cap≤maxLen∧g<w.heap.size∧B≤g∧w.cell? ⟨g,i,none⟩=some (.int k xs[i])∧w.frozen? ⟨g,i,none⟩=false∧
    ∀x,(Lit.int k x).wf=true→Own (intR k) B e F (w.setCell ⟨g,i,none⟩ (.int k x)) v (xs.set i x)∧Kept (fun j=>j≠g) w (w.setCell ⟨g,i,none⟩ (.int k x)):=by
 have h0:=h;obtain⟨S0,css0,hS0,hv0,hl0,hr0,ho0⟩:=h
 rcases ho0.2 with⟨-,hz⟩|⟨g,cap,cur,rfl,hb,hg,h1,h2,h3,h4⟩
 · omega
 · obtain⟨-, -,hcm,hFg,S,hSF,hrow⟩:=h0.row
   obtain⟨es,⟨rfl, -⟩,hca⟩:=hrow.at i hi;have hc0:=hca 0 _ rfl;have hn:(intR k).n=1:=rfl;rw [hn,Nat.mul_one,Nat.add_zero]at hc0
   refine⟨g,cap,rfl,h1,h2,hrow.lt,hb,hc0,(box_cells hg).2 i,fun x hx=> ?_⟩
   obtain⟨hr2,hk2⟩:=hrow.store i hi (es:= [.int k x]) (x:=x) ⟨rfl,hx⟩;rw [hn,Nat.mul_one]at hr2 hk2;have e1:w.setCells g i [Value.int k x]=w.setCell ⟨g,i,none⟩ (.int k x):=rfl;rw [e1]at hr2 hk2;have:=hr2.own (F:=F) hSF hFg hb hcm;rw [List.length_set]at this
   exact⟨this,hk2⟩
end Go.Proofs.YtjknlhiimmbilaaGreatDoor
/- For drawn regions walked by hand: held conditions that simp does not look into. Nothing of the program is named here; no conditions. -/
set_option maxRecDepth 100000
namespace Go.Proofs.YtjknlhiimmbilaaGreatDoor
open Go.ChangeShapes Go.WideShapes Go.ChangeAt Go.RowKit Go.Sort
structure BoxS (w0:World)(B:Nat)(l:List Value)(w':World):Prop where
 bel:Below w0.heap.size w0 w'
 cel: ∀o,w'.cell? ⟨B,o,none⟩=(List.toArray l)[o]?
section
variable {w0 w1 w2:World} {B:Nat} {l:List Value} {t:TypeId}
theorem BoxS.of (h:w0.heap[B]? =some (.cells (List.toArray l) t (0,0)))(hb:Below w0.heap.size w0 w1):BoxS w0 B l w1:=⟨hb,(box_cells (box_after hb h)).1⟩
theorem BoxS.drew (h:BoxS w0 B l w1):BoxS w0 B l w1.drew:=⟨h.bel.drew,h.cel⟩
theorem BoxS.range (h:BoxS w0 B l w1):w1.rangeAt B 0 l:=fun j v hv=>by rw [Nat.zero_add,h.cel];simpa using hv
end
structure BelS (w0:World)(w':World):Prop where
 bel:Below w0.heap.size w0 w'
structure RngS (w0:World)(B1 o1:Nat)(l1:List Value)(B2 o2:Nat)(l2:List Value)(w':World):Prop where
 bel:Below w0.heap.size w0 w'
 r1:w'.rangeAt B1 o1 l1
 r2:w'.rangeAt B2 o2 l2
theorem range_below {w w':World}{B o:Nat}{l:List Value}(h:w.rangeAt B o l)(hb:Below w.heap.size w w'):w'.rangeAt B o l:=fun j v hv=>(Kept.of_below (S:=fun _=>True) hb).cell trivial (h j v hv)
theorem RngS.of {w0 w1:World}{B1 o1 B2 o2:Nat}{l1 l2:List Value}(h1:w0.rangeAt B1 o1 l1)(h2:w0.rangeAt B2 o2 l2)(hb:Below w0.heap.size w0 w1):RngS w0 B1 o1 l1 B2 o2 l2 w1:=⟨hb,range_below h1 hb,range_below h2 hb⟩
end Go.Proofs.YtjknlhiimmbilaaGreatDoor
