/- Of any text: the program's descriptors and the reference's are read and written alike (DescParses). No condition. -/
import Derived.Test.YtcjioogololnoaaGreatDoorU1
import Derived.OrdersHeld
import Derived.OrdersIn
import Derived.Below
import Derived.Deep.Draws
import Derived.Test.YtcjioogololnoaaGreatDoorU3
import Derived.Shelf.RegionOpen
import Derived.Lib.LazyBuf
import Derived.Test.YtcjioogololnoaaGreatDoorShelf
import Derived.Lib.MakeNoZero
import Derived.Lib.SlBuf
import Derived.Laws.CopyOwn
set_option maxRecDepth 1000000
set_option maxHeartbeats 16000000
set_option linter.unusedVariables false
set_option linter.unusedSimpArgs false
namespace Go.Proofs.YtcjioogololnoaaGreatDoor
open Go Go.RowKit
def _root_.Go.World.ext (w:World) (pk:Array Obj) (d:Nat):World:={ w with heap:=w.heap++pk,drawn:=d }
def Ext (w w':World):Prop:=∃pk d,w'=w.ext pk d
theorem aj {w w':World} (h:Below w.heap.size w w'):Ext w w':=by
 refine⟨w'.heap.extract w.heap.size w'.heap.size,w'.drawn,?_⟩
 have hh:w'.heap=w.heap++w'.heap.extract w.heap.size w'.heap.size:=by
  apply Array.ext_getElem?;intro i
  by_cases hi:i<w.heap.size
  · rw[h.block i hi,Array.getElem?_append_left hi]
  rw[Array.getElem?_append_right (by omega)];rw[Array.getElem?_extract]
  by_cases h2:i<w'.heap.size
  · rw[if_pos (by omega)];congr 1;omega
  rw[if_neg (by omega),Array.getElem?_eq_none (by omega)]
 cases w' with|mk hp tp dr os ou=>
 cases w with|mk hp2 tp2 dr2 os2 ou2=>
 obtain⟨rfl,rfl,rfl⟩:os=os2∧tp=tp2∧ou=ou2:=⟨h.os,h.tape,h.output⟩;simp only[World.ext] at hh⊢;rw[←hh]
theorem Ext.below {w w':World} (h:Ext w w'):Below w.heap.size w w':=by
 obtain⟨pk,d,rfl⟩:=h;exact⟨rfl,rfl,rfl,by simp[World.ext],fun k hk=>by simp[World.ext,Array.getElem?_append_left hk]⟩
theorem Ext.refl (w:World):Ext w w:=aj (af5 _ _)
theorem Ext.trans {a b c:World} (h:Ext a b) (k:Ext b c):Ext a c:=aj (h.below.trans (k.below.mono h.below.size))
theorem aW (w:World) (o:Obj):Ext w (w.alloc o):=aj ((af5 _ w).alloc (af2 _) o)
theorem bM (w:World) (o:Obj):Ext w.drew (w.alloc o).drew:=aj ⟨rfl,rfl,rfl,by simp,fun k hk=>Below.heap_alloc w o k hk⟩
theorem Ext.drew {a b:World} (h:Ext a b):Ext a b.drew:=aj h.below.drew
@[go_sem] theorem cell?_ext (w:World) (pk:Array Obj) (d:Nat) (a:Addr) (h:(w.cell? a).isSome=true):(w.ext pk d).cell? a=w.cell? a:=by
 obtain⟨v,hv⟩:=Option.isSome_iff_exists.1 h;exact(Ext.below ⟨pk,d,rfl⟩).cell (World.block_lt_of_cell? w a hv)
@[go_sem] theorem frozen?_ext (w:World) (pk:Array Obj) (d:Nat) (a:Addr) (h:(w.cell? a).isSome=true):(w.ext pk d).frozen? a=w.frozen? a:=by
 obtain⟨v,hv⟩:=Option.isSome_iff_exists.1 h;exact(Ext.below ⟨pk,d,rfl⟩).frozen (World.block_lt_of_cell? w a hv)
section
variable {P:Program} {ops:Array Oper} {md:Region.Mode}
structure fy (P:Program) (ops:Array Oper) (Q:Act→World→Prop) (st:Nat→(Act→World→Prop)→Act→World→Prop):Prop where
 mono:∀{i:Nat} {K K':Act→World→Prop} {a:Act} {w:World},(∀a w,K a w→K' a w)→st i K a w→st i K' a w
 yield:∀{i:Nat} {o:Oper} {v:Value} {a:Act} {w:World} {K:Act→World→Prop} {S:World→Prop},ops[i]?=some o→YieldsIf P ops S o v a→S w→K (a.put o.dst v) w→st i K a w
 put:∀{j:Nat} {oi oj:Oper} {v:Value} {a:Act} {w:World} {K:Act→World→Prop} {S:World→Prop},ops[j]?=some oj→oi.apart ops oj=true→(∀cs b,oi.op≠ .select cs b)→(∀cs b,oj.op≠ .select cs b)→
  YieldsIf P ops S oi v a→st j K (a.put oi.dst v) w→st j (fun a' w'=>YieldsIf P ops S oi v a'∧K (a'.put oi.dst v) w') a w
variable {Q:Act→World→Prop} {st:Nat→(Act→World→Prop)→Act→World→Prop} {N:Nat}
def tb (N:Nat) (listed:Array Bool):Prop:=∃t,N≤t∧listed.getD t false=true
theorem WI {N i:Nat} {listed:Array Bool} (hi:i<N):tb N (listed.setIfInBounds i true)↔tb N listed:=by
 unfold tb;constructor
 · rintro⟨t,ht,h⟩;exact⟨t,ht,by rwa [getD_set_ne false (by omega)] at h⟩
 rintro⟨t,ht,h⟩;exact⟨t,ht,getD_set_true h⟩
theorem Ik {N i:Nat} {listed:Array Bool} (h:tb N listed):tb N (listed.setIfInBounds i true):=by
 obtain⟨t,ht,h⟩:=h;exact⟨t,ht,getD_set_true h⟩
def jP (md:Region.Mode) (ops:Array Oper) (Q:Act→World→Prop) (st:Nat→(Act→World→Prop)→Act→World→Prop) (N:Nat) (S:World→Prop):Nat→Array Bool→Act→World→Prop
 |0,listed,a,w=>Region.ready md ops listed=[]∧Q a w
 |fuel+1,listed,a,w=>(Region.ready md ops listed=[]→Q a w)∧
  ∀i∈Region.ready md ops listed,st i (fun a' w'=>(tb N (listed.setIfInBounds i true)∨S w')∧jP md ops Q st N S fuel (listed.setIfInBounds i true) a' w') a w
def Closed (md:Region.Mode) (ops:Array Oper) (listed:Array Bool):Prop:=
 listed.size=ops.size∧∀j oj,ops[j]?=some oj→listed.getD j false=true→∀e∈oj.after,Region.binds md e=true→listed.getD e.on false=true
def anc (md:Region.Mode) (ops:Array Oper):Nat→Nat→Nat→Bool
 |0,_,_=>false
 |f+1,j,i=>match ops[j]? with
  |some oj=>oj.after.any fun e=>Region.binds md e&&(e.on==i||anc md ops f e.on i)
  |none=>false
theorem qi {listed:Array Bool} (hc:Closed md ops listed):∀(f j i:Nat),listed.getD j false=true→anc md ops f j i=true→listed.getD i false=true:=by
 intro f
 induction f with
 |zero=>intro j i _ h;cases h
 |succ f ih=>
  intro j i hj h;unfold anc at h;split at h
  · rename_i oj ho
    obtain⟨e,he,hb⟩:=Array.any_eq_true'.1 h;simp only[agz,Bool.or_eq_true,beq_iff_eq] at hb;have hl:=hc.2 j oj ho hj e he hb.1;rcases hb.2 with rfl|h2
    · exact hl
    exact ih e.on i hl h2
  cases h
theorem Closed.set {listed:Array Bool} (hc:Closed md ops listed) {i:Nat} (hi:i∈Region.ready md ops listed):Closed md ops (listed.setIfInBounds i true):=by
 obtain⟨_,o,ho,dV⟩:=mem_ready.1 hi;refine⟨by simpa using hc.1,?_⟩;intro j oj hj hl e he hb
 by_cases hij:i=j
 · subst hij
   have:oj=o:=Option.some.inj (hj.symm.trans ho);subst this;exact getD_set_true (dV e he hb)
 rw[getD_set_ne false hij] at hl;exact getD_set_true (hc.2 j oj hj hl e he hb)
theorem kf {listed:Array Bool} {i:Nat} (h:listed.getD i true=false):listed.getD i false=false:=by
 rcases Nat.lt_or_ge i listed.size with h'|h'
 · simp[h'] at h⊢;exact h
 simp[Array.getElem?_eq_none h'] at h
theorem kX (L:fy P ops Q st) {S S':World→Prop} (hS:∀w,S' w→S w):∀(fuel:Nat) (listed:Array Bool) (a:Act) (w:World),jP md ops Q st N S' fuel listed a w→jP md ops Q st N S fuel listed a w
 |0,_,_,_,h=>h
 |fuel+1,_,_,_,h=>⟨h.1,fun i hi=>L.mono (fun a' w' h'=>⟨h'.1.imp id (hS _),kX L hS fuel _ a' w' h'.2⟩) (h.2 i hi)⟩
theorem fu (L:fy P ops Q st) {S S1:World→Prop} {i:Nat} {oi:Oper} {v:Value} (hi:ops[i]?=some oi) (iP:∀(j:Nat) (o:Oper) cs b,ops[j]?=some o→o.op≠ .select cs b) (lP:i<N)
 (zQ:∀listed w,Closed md ops listed→listed.getD i true=false→tb N listed∨S w→S1 w):
 ∀(fuel:Nat) (listed:Array Bool) (a:Act) (w:World),Closed md ops listed→
  (∀j oj,ops[j]?=some oj→j≠i→listed.getD j true=false→(∀e∈oj.after,Region.binds md e=true→e.on≠i)→oi.apart ops oj=true)→
  i∈Region.ready md ops listed→YieldsIf P ops S1 oi v a→(tb N listed∨S w)→
  jP md ops Q st N S fuel (listed.setIfInBounds i true) (a.put oi.dst v) w→jP md ops Q st N S (fuel+1) listed a w:=by
 intro fuel
 induction fuel with
 |zero=>
  intro listed a w db yI hr hy hS H;refine⟨fun h=>(by rw[h] at hr;cases hr),fun j hj=>?_⟩
  by_cases Rj:j=i
  · subst Rj;exact L.yield hi hy (zQ listed w db (mem_ready.1 hr).1 hS) ⟨hS.imp Ik id,H⟩
  have:=ready_mono hj Rj;rw[H.1] at this
  cases this
 |succ fuel ih=>
  intro listed a w db yI hr hy hS H;refine⟨fun h=>(by rw[h] at hr;cases hr),fun j hj=>?_⟩
  by_cases Rj:j=i
  · subst Rj;exact L.yield hi hy (zQ listed w db (mem_ready.1 hr).1 hS) ⟨hS.imp Ik id,H⟩
  have h1:=H.2 j (ready_mono hj Rj);obtain⟨aap,oj,WJ,dV⟩:=mem_ready.1 hj
  have acJ:∀e∈oj.after,Region.binds md e=true→e.on≠i:=fun e he hb heq=>by
   have h1:=dV e he hb;have h0:=(mem_ready.1 hr).1;rw[heq] at h1;rcases Nat.lt_or_ge i listed.size with h'|h'
   · simp[h'] at h0 h1;rw[h0] at h1;cases h1
   simp[Array.getElem?_eq_none h'] at h1
  have h2:=L.put WJ (yI j oj WJ Rj aap acJ) (fun cs b=>iP i oi cs b hi) (fun cs b=>iP j oj cs b WJ) hy h1
  have WK:∀k ok,ops[k]?=some ok→k≠i→(listed.setIfInBounds j true).getD k true=false→
   (∀e∈ok.after,Region.binds md e=true→e.on≠i)→oi.apart ops ok=true:=fun k ok hk hki EJ nh=>by
   refine yI k ok hk hki ?_ nh
   by_cases WL:j=k
   · subst WL;exact aap
   rw[getD_set_ne true WL] at EJ;exact EJ
  refine L.mono (fun a' w' h3=>?_) h2
  have hS':tb N (listed.setIfInBounds j true)∨S w':=by
   have:=h3.2.1;rw[Array.setIfInBounds_comm _ _ (Ne.symm Rj),WI lP] at this;exact this
  refine⟨hS',ih (listed.setIfInBounds j true) a' w' (db.set hj) WK (ready_mono hr (Ne.symm Rj)) h3.1 hS' ?_⟩;rw[Array.setIfInBounds_comm _ _ Rj];exact h3.2.2
def lS (md:Region.Mode) (ops:Array Oper) (N:Nat):List (Nat×Nat)→Array Bool→Bool
 |[],listed=>Region.ready md ops listed==[]
 |(i,k)::rest,listed=>
  (if k=0 then (Region.ready md ops listed).contains i&&Region.free md ops listed i&&decide (i<N)
   else if k=1 then (Region.ready md ops listed).contains i&&Region.free md ops listed i&&decide (i<N)&&((List.range ops.size).all fun j=>decide (j<N)||anc md ops ops.size j i)
   else (Region.ready md ops listed==[i])&&(decide (i<N)||rest.all fun p=>decide (2≤p.2)&&decide (N≤p.1)))&&lS md ops N rest (listed.setIfInBounds i true)
def ay (P:Program) (ops:Array Oper) (Q:Act→World→Prop) (st:Nat→(Act→World→Prop)→Act→World→Prop) (N:Nat):List (Nat×Nat)→Act→World→Prop
 |[],a,w=>Q a w
 |(i,k)::rest,a,w=>
  if k=0 then (match ops[i]? with
   |none=>False
   |some o=>∃v,YieldsIf P ops (fun _=>True) o v a∧ay P ops Q st N rest (a.put o.dst v) w)
  else if k=1 then (match ops[i]? with
   |none=>False
   |some o=>∃v,YieldsIf P ops (Ext w) o v a∧ay P ops Q st N rest (a.put o.dst v) w)
  else st i (fun a' w'=>(N≤i∨Ext w w')∧ay P ops Q st N rest a' w') a w
theorem vl (L:fy P ops Q st) {S:World→Prop}:∀(eY:List (Nat×Nat)) (listed:Array Bool) (a:Act) (w:World) (extra:Nat),
 lS md ops N eY listed=true→(eY.all fun p=>decide (2≤p.2)&&decide (N≤p.1))=true→listed.size=ops.size→ay P ops Q st N eY a w→jP md ops Q st N S (eY.length+extra) listed a w
 |[],listed,a,w,extra,hB,_,_,h=>by
  have hr:Region.ready md ops listed=[]:=by simpa [lS] using hB
  cases extra with
  |zero=>exact⟨hr,h⟩
  |succ e=>exact⟨fun _=>h,by rw[hr];simp⟩
 |(i,k)::rest,listed,a,w,extra,hB,hA,hsz,h=>by
  simp only[List.all_cons,agz,agy] at hA;have ls:¬k=0:=by omega
  have nq:¬k=1:=by omega
  simp only[lS,ls,nq,if_false,agz] at hB;obtain⟨⟨hr,_⟩,fp⟩:=hB;have hr:Region.ready md ops listed=[i]:=by simpa using hr
  rw[agm,show rest.length+1+extra=rest.length+extra+1 by omega];refine⟨fun h0=>(by rw[h0] at hr;cases hr),fun j hj=>?_⟩;rw[hr] at hj;obtain rfl:j=i:=by simpa using hj
  have aL:j<listed.size:=by
   have yG:j∈Region.ready md ops listed:=by rw[hr];simp
   obtain⟨_,o,ho,_⟩:=mem_ready.1 yG;rw[hsz];exact(af3.1 ho).1
  simp only[ay,ls,nq,if_false] at h;exact L.mono (fun a' w' h'=>⟨.inl ⟨j,hA.1.2,by simp[aL]⟩,vl L rest _ a' w' extra fp (by simpa using hA.2) (by simpa using hsz) h'.2⟩) h
theorem ix (L:fy P ops Q st) (iP:Region.noSelect ops=true):∀(eY:List (Nat×Nat)) (listed:Array Bool) (a:Act) (w w0:World) (extra:Nat),
 lS md ops N eY listed=true→Closed md ops listed→listed.size=ops.size→Ext w0 w→ay P ops Q st N eY a w→jP md ops Q st N (Ext w0) (eY.length+extra) listed a w
 |[],listed,a,w,w0,extra,hB,_,_,_,h=>by
  have hr:Region.ready md ops listed=[]:=by simpa [lS] using hB
  cases extra with
  |zero=>exact⟨hr,h⟩
  |succ e=>exact⟨fun _=>h,by rw[hr];simp⟩
 |(i,k)::rest,listed,a,w,w0,extra,hB,db,hsz,hE,h=>by
  have Il:=hB
  by_cases ls:k=0
  · simp only[lS,ls,if_true,agz,agy] at hB
    obtain⟨⟨⟨hr,hf⟩,lP⟩,fp⟩:=hB;have qV:i∈Region.ready md ops listed:=by simpa using hr
    simp only[ay,ls,if_true] at h;split at h
    · exact h.elim
    rename_i o ho;obtain⟨v,hy,hK⟩:=h;have sE:=ix L iP rest (listed.setIfInBounds i true) (a.put o.dst v) w w0 extra fp (db.set qV) (by simpa using hsz) hE hK;have h1:=fu L (S:=Ext w0) (S1:=fun _=>True) ho (Region.noSelect_spec iP) lP (fun _ _ _ _ _=>trivial) (rest.length+extra) listed a w db (Region.free_spec ho hf) qV hy (.inr hE) sE;rw[agm,show rest.length+1+extra=rest.length+extra+1 by omega];exact h1
  by_cases nq:k=1
  · subst nq
    simp only[lS,if_true,agz,agy,Nat.one_ne_zero,if_false] at hB;obtain⟨⟨⟨⟨hr,hf⟩,lP⟩,M1⟩,fp⟩:=hB;have qV:i∈Region.ready md ops listed:=by simpa using hr
    simp only[ay,if_true,Nat.one_ne_zero,if_false] at h;split at h
    · exact h.elim
    rename_i o ho;obtain⟨v,hy,hK⟩:=h;have sE:=ix L iP rest (listed.setIfInBounds i true) (a.put o.dst v) w w extra fp (db.set qV) (by simpa using hsz) (Ext.refl w) hK
    have h1:=fu L (S:=Ext w) (S1:=Ext w) ho (Region.noSelect_spec iP) lP (fun l w' hc hu ht=>by
     rcases ht with ⟨t,ht,hl⟩|h
     · exfalso
       have Ew:t<ops.size∨¬t<ops.size:=Decidable.em _;rcases Ew with Ew|Ew
       · have:=List.all_eq_true.1 M1 t (List.mem_range.2 Ew)
         simp only[Bool.or_eq_true,agy] at this;have:=qi hc _ _ _ hl (this.resolve_left (by omega));rw[kf hu] at this
         cases this
       ·
        rw[show l.getD t false=false by simp[Array.getElem?_eq_none (show l.size≤t by rw[hc.1];omega)]] at hl
        cases hl
     exact h) (rest.length+extra) listed a w db (Region.free_spec ho hf) qV hy (.inr (Ext.refl w)) sE
    rw[agm,show rest.length+1+extra=rest.length+extra+1 by omega];exact kX L (fun w' x6=>hE.trans x6) _ _ _ _ h1
  simp only[lS,ls,nq,if_false,agz] at hB;obtain⟨⟨hr,ht⟩,fp⟩:=hB
  by_cases lP:N≤i
  · refine vl L ((i,k)::rest) listed a w extra Il ?_ hsz h
    simp only[Bool.or_eq_true,agy] at ht;have:=ht.resolve_left (by omega);simp only[List.all_cons,this,lP,decide_true,Bool.and_true,agy];omega
  have hr:Region.ready md ops listed=[i]:=by simpa using hr
  have qV:i∈Region.ready md ops listed:=by rw[hr];simp
  rw[agm,show rest.length+1+extra=rest.length+extra+1 by omega];refine⟨fun h0=>(by rw[h0] at hr;cases hr),fun j hj=>?_⟩;rw[hr] at hj;obtain rfl:j=i:=by simpa using hj
  simp only[ay,ls,nq,if_false] at h;refine L.mono (fun a' w' h'=>?_) h;have Cd:=hE.trans (h'.1.resolve_left lP);exact⟨.inr Cd,ix L iP rest _ a' w' w0 extra fp (db.set qV) (by simpa using hsz) Cd h'.2⟩
def fY (w:World) (v:Value):Result Next→Prop
 |.ok (.value u) w'=>w'=w∧u=v
 |_=>False
def Im (P:Program) (o:Oper) (a:Act) (w:World) (K:Act→Prop):Prop:=∃v,(∀pk d,fY (w.ext pk d) v ((execOp a.eval o).run P (w.ext pk d)))∧K (a.put o.dst v)
def EK (P:Program) (o:Oper) (a:Act) (K:Act→Prop):Prop:=∃v,(∀W,fY W v ((execOp a.eval o).run P W))∧K (a.put o.dst v)
theorem ag {i:Nat} {rest:List (Nat×Nat)} {o:Oper} {a:Act} {w:World} (ho:ops[i]?=some o)
 (h:∀K:Act→Prop,(∀a,ay P ops Q st N rest a w→K a)→if Region.wanted o (yielded ops a.tmps) then EK P o a K else K (a.put o.dst undef)):
 ay P ops Q st N ((i,0)::rest) a w:=by
 have h:=h _ (fun _ h=>h);simp only[ay,if_true,ho];split at h
 · rename_i hw
   obtain⟨v,hv,hK⟩:=h;refine⟨v,.inl ⟨hw,fun w' _=>?_⟩,hK⟩;have:=hv w';generalize (execOp a.eval o).run P w'=r at*
   cases r with
   |ok n w'=>
    cases n<;>simp only[fY] at this
    obtain⟨rfl,rfl⟩:=this;rfl
   |halt x w'=>simp only[fY] at this
 rename_i hw;exact⟨undef,.inr ⟨by simpa using hw,rfl⟩,h⟩
theorem af {i:Nat} {rest:List (Nat×Nat)} {o:Oper} {a:Act} {w:World} (ho:ops[i]?=some o)
 (h:∀K:Act→Prop,(∀a,ay P ops Q st N rest a w→K a)→if Region.wanted o (yielded ops a.tmps) then Im P o a w K else K (a.put o.dst undef)):
 ay P ops Q st N ((i,1)::rest) a w:=by
 have h:=h _ (fun _ h=>h);simp only[ay,if_true,ho,Nat.one_ne_zero,if_false];split at h
 · rename_i hw
   obtain⟨v,hv,hK⟩:=h;refine⟨v,.inl ⟨hw,fun w' x6=>?_⟩,hK⟩;obtain⟨pk,d,rfl⟩:=x6;have:=hv pk d;generalize (execOp a.eval o).run P (w.ext pk d)=r at*
   cases r with
   |ok n w'=>
    cases n<;>simp only[fY] at this
    obtain⟨rfl,rfl⟩:=this;rfl
   |halt x w'=>simp only[fY] at this
 rename_i hw;exact⟨undef,.inr ⟨by simpa using hw,rfl⟩,h⟩
theorem ak {a:Act} {w:World} (h:Q a w):ay P ops Q st N [] a w:=h
end
attribute [go_sem] Im fY EK
section
variable {P:Program} {ops:Array Oper} {N:Nat}
theorem aw (Q:Exit→Act→World→Prop) (hQ:∀c a d v w,Q (.panic c) (Act.put a d v) w→Q (.panic c) a w):fy P ops (Q .normal) (fun i K a w=>wpOp P ops Q i K a w):=
 ⟨fun h hh=>wpOp_mono h hh,fun ho hy hS hK=>hy.wpOp ho hS hK,fun hj hap hsi WM hy h=>wpOp_putIf hj hap hsi WM (fun c a w h=>hQ c _ _ _ w h) hy h⟩
theorem kg {Q:Exit→Act→World→Prop} {S:World→Prop}:∀(fuel:Nat) (listed:Array Bool) (a:Act) (w:World),jP .any ops (Q .normal) (fun i K a w=>wpOp P ops Q i K a w) N S fuel listed a w→wpAny P .any ops Q fuel listed a w
 |0,_,_,_,h=>h
 |fuel+1,_,_,_,h=>⟨h.1,fun i hi=>wpOp_mono (fun a' w' h'=>kg fuel _ a' w' h'.2) (h.2 i hi)⟩
theorem an {id:Nat} {Q:Exit→Act→World→Prop} {a:Act} {w:World} {l:List Oper} (eY:List (Nat×Nat)) (N:Nat) (hm:P.follows .mixedOrders=true)
 (hB:(Region.noSelect l.toArray&&decide (eY.length=l.length)&&lS .any l.toArray N eY (Array.replicate l.length false))=true) (hQ:∀c a d v w,Q (.panic c) (Act.put a d v) w→Q (.panic c) a w)
 (h:ay P l.toArray (Q .normal) (fun i K a w=>wpOp P l.toArray Q i K a w) N eY a w.drew):(Code.region id l.toArray true).wp P Q a w:=by
 simp only[agz,agy] at hB;refine wp_region_any hm ?_
 have:=ix (aw Q hQ) hB.1.1 eY (Array.replicate l.length false) a w.drew w.drew 0 hB.2 ⟨by simp,fun j oj hj hl=>by
  rcases Nat.lt_or_ge j l.length with h|h
  · simp[h] at hl
  simp[h] at hl⟩ (by simp) (Ext.refl _) h
 rw[Nat.add_zero,hB.1.2] at this;have:=kg _ _ _ _ this;simpa using this
theorem ae {i:Nat} {rest:List (Nat×Nat)} {o:Oper} {a:Act} {w:World} {Q:Exit→Act→World→Prop} (ho:ops[i]?=some o) (hg:o.guard=none)
 (h:∀K:Act→World→Prop,(∀a' w',((N≤i∨Ext w w')∧ay P ops (Q .normal) (fun i K a w=>wpOp P ops Q i K a w) N rest a' w')→K a' w')→o.wp P a w K Q):
 ay P ops (Q .normal) (fun i K a w=>wpOp P ops Q i K a w) N ((i,2)::rest) a w:=by
 simp only[ay,show¬(2=0) by decide,show¬(2=1) by decide,if_false,wpOp,ho,Region.wanted,hg,if_true];exact .inl (h _ (fun _ _ h=>h))
def Region.noDefer (ops:Array Oper):Bool:=ops.all fun o=>match o.op with|.defer _=>false|_=>true
theorem qW (h:Region.noDefer ops=true) (j:Nat) (o:Oper) (ho:ops[j]?=some o):∀c,o.op≠ .defer c:=by
 intro c heq;have:=Array.all_eq_true_iff_forall_mem.1 h o (Array.mem_of_getElem? ho);simp[heq] at this
variable {F:Fence} {n:Nat}
theorem YieldsIf.wpOpIn {S:World→Prop} {Q:Exit→Act→World→Prop} (hF:∀k,F.fn k) (M2:Region.noDefer ops=true) {i:Nat} {o:Oper} {v:Value} {a:Act} (hi:ops[i]?=some o) (hy:YieldsIf P ops S o v a)
 {K:Act→World→Prop} {w:World} (hS:S w) (h:K (a.put o.dst v) w):wpOpIn F n P ops Q i K a w:=by
 unfold Go.wpOpIn;simp only[hi];rcases hy with ⟨hw,hv⟩|⟨hw,rfl⟩
 · simp only[hw,if_true,Oper.wpIn,Oper.semAt_eq _ _ _ (qW M2 i o hi),hv w hS,Oper.uponIn];exact⟨fun f _=>hF f,h⟩
 simp only[hw,Bool.false_eq_true,if_false];exact⟨fun f _=>hF f,h⟩
theorem zR {S:World→Prop} {Q:Exit→Act→World→Prop} (hF:∀k,F.fn k) (M2:Region.noDefer ops=true) {j:Nat} {oi oj:Oper} {v:Value} (hj:ops[j]?=some oj) (hap:oi.apart ops oj=true)
 (hsi:∀cs b,oi.op≠ .select cs b) (WM:∀cs b,oj.op≠ .select cs b)
 (hQ:∀c a d v w,Q (.panic c) (Act.put a d v) w→Q (.panic c) a w) {K:Act→World→Prop} {a:Act} {w:World}
 (hy:YieldsIf P ops S oi v a) (h:wpOpIn F n P ops Q j K (a.put oi.dst v) w):
 wpOpIn F n P ops Q j (fun a' w'=>YieldsIf P ops S oi v a'∧K (a'.put oi.dst v) w') a w:=by
 obtain⟨h1,h2,h3⟩:=Oper.apart_spec hap
 have keep:∀(a:Act),YieldsIf P ops S oi v a→∀u,YieldsIf P ops S oi v (a.put oj.dst u):=fun a hy u=>
  hy.of_same (execOp_put oi hsi a oj.dst u h3) (wanted_put oi a oj.dst u h3)
 have aaq:∀d,YieldsIf P ops S oi v { a with defers:=d::a.defers }:=fun d=>hy.of_same rfl rfl
 have hnj:=qW M2 j oj hj;unfold wpOpIn at*;simp only[hj] at*;rw[wanted_put oj a oi.dst v h1] at h;split
 · rename_i hw
   simp only[hw,if_true] at h;unfold Oper.wpIn at*;refine⟨fun f _=>hF f,?_⟩;have h:=h.2;rw[Oper.semAt_eq _ _ _ hnj] at h⊢;rw[execOp_put oj WM a oi.dst v h1] at h;generalize (execOp a.eval oj).run P w=r at*
   cases r with
   |ok m w'=>
    cases m<;>simp only[Oper.uponIn] at h⊢
    case value u=>exact⟨keep a hy u,by rw[←Act.put_comm a v u h2];exact h⟩
    case skip=>exact⟨keep a hy _,by rw[←Act.put_comm a v undef h2];exact h⟩
    case defer d=>
     refine⟨keep _ (aaq d) _,?_⟩;rw[←Act.put_comm _ v undef h2,←Act.put_defers];exact h
    case enter f args=>
     refine⟨h.1,CallsIn.mono h.2 fun e w'' he=>?_⟩
     cases e with
     |returned u=>exact⟨keep a hy u,by rw[←Act.put_comm a v u h2];exact he⟩
     |panicked c=>exact hQ _ _ _ _ _ he
     |outgrown=>exact he
    case row row args=>exact⟨h.1,RowsIn.mono h.2 fun u w'' he=>⟨keep a hy u,by rw[←Act.put_comm a v u h2];exact he⟩⟩
    case round=>
     refine⟨h.1,RoundIn.mono h.2 fun e w'' he=>?_⟩
     cases e with
     |returned u=>exact⟨keep a hy u,by rw[←Act.put_comm a v u h2];exact he⟩
     |panicked c=>exact hQ _ _ _ _ _ he
     |outgrown=>exact he
   |halt x w'=>
    cases x<;>simp only[Oper.uponIn] at h⊢
    case panic u=>exact hQ _ _ _ _ _ h
 rename_i hw;simp only[hw] at h;exact⟨fun f _=>hF f,keep a hy _,by rw[←Act.put_comm a v undef h2];exact h.2⟩
theorem EL (Q:Exit→Act→World→Prop) (hF:∀k,F.fn k) (M2:Region.noDefer ops=true) (hQ:∀c a d v w,Q (.panic c) (Act.put a d v) w→Q (.panic c) a w):fy P ops (Q .normal) (fun i K a w=>wpOpIn F n P ops Q i K a w):=
 ⟨fun h hh=>wpOpIn_mono h hh,fun ho hy hS hK=>YieldsIf.wpOpIn hF M2 ho hy hS hK,fun hj hap hsi WM hy h=>zR hF M2 hj hap hsi WM hQ hy h⟩
theorem qX {Q:Exit→Act→World→Prop} {S:World→Prop}:∀(fuel:Nat) (listed:Array Bool) (a:Act) (w:World),jP .any ops (Q .normal) (fun i K a w=>wpOpIn F n P ops Q i K a w) N S fuel listed a w→wpAnyIn F n P .any ops Q fuel listed a w
 |0,_,_,_,h=>h
 |fuel+1,_,_,_,h=>⟨h.1,fun i hi=>wpOpIn_mono (fun a' w' h'=>qX fuel _ a' w' h'.2) (h.2 i hi)⟩
theorem fZ {id:Nat} {Q:Exit→Act→World→Prop} {a:Act} {w:World} {l:List Oper} (eY:List (Nat×Nat)) (N:Nat) (hF:∀k,F.fn k) (hm:P.follows .mixedOrders=true)
 (hB:(Region.noSelect l.toArray&&Region.noDefer l.toArray&&decide (eY.length=l.length)&&lS .any l.toArray N eY (Array.replicate l.length false))=true) (hQ:∀c a d v w,Q (.panic c) (Act.put a d v) w→Q (.panic c) a w)
 (h:ay P l.toArray (Q .normal) (fun i K a w=>wpOpIn F n P l.toArray Q i K a w) N eY a w.drew):(Code.region id l.toArray true).wpIn F n P Q a w:=by
 simp only[agz,agy] at hB;refine wpIn_region_any hm ?_
 have:=ix (EL (F:=F) (n:=n) Q hF hB.1.1.2 hQ) hB.1.1.1 eY (Array.replicate l.length false) a w.drew w.drew 0 hB.2 ⟨by simp,fun j oj hj hl=>by
  rcases Nat.lt_or_ge j l.length with h|h
  · simp[h] at hl
  simp[h] at hl⟩ (by simp) (Ext.refl _) h
 rw[Nat.add_zero,hB.1.2] at this;have:=qX _ _ _ _ this;simpa using this
theorem cR {i:Nat} {rest:List (Nat×Nat)} {o:Oper} {a:Act} {w:World} {Q:Exit→Act→World→Prop} (ho:ops[i]?=some o) (hg:o.guard=none)
 (h:∀K:Act→World→Prop,(∀a' w',((N≤i∨Ext w w')∧ay P ops (Q .normal) (fun i K a w=>wpOpIn F n P ops Q i K a w) N rest a' w')→K a' w')→o.wpIn F n P a w K Q):
 ay P ops (Q .normal) (fun i K a w=>wpOpIn F n P ops Q i K a w) N ((i,2)::rest) a w:=by
 simp only[ay,show¬(2=0) by decide,show¬(2=1) by decide,if_false,wpOpIn,ho,Region.wanted,hg,if_true];exact h _ (fun _ _ h=>h)
end
end Go.Proofs.YtcjioogololnoaaGreatDoor
namespace Go.Proofs.YtcjioogololnoaaGreatDoor
open Go.RowKit Go.Shelf
theorem Sl.cutf {w:World} {B:Nat} {A:Option Addr} {xs:List Value} (h:Sl w B A xs) {k cap:Nat} (f:Addr→Addr) (hf:∀b o,f ⟨b,o,none⟩=⟨b,o+k,none⟩) (hc:xs.length≤cap) (hk:k≤xs.length):
 Sl w B (if cap=k then A else A.map f) (xs.drop k):=fun hn=>by
 have M4:k<xs.length:=by simp at hn;omega
 obtain⟨b,o,rfl,hb,aD⟩:=h (by omega);rw[if_neg (by omega)];refine⟨b,o+k,by simp[hf],hb,fun j hj=>?_⟩;have:=aD (k+j) (by simp at hj;omega);rw[Nat.add_assoc,this];simp
theorem qY (bs:List UInt8) (x:UInt8) (k:Nat) (h:k≤bs.length) (dV:∀j (hj:j<bs.length),j<k→bs[j]=x) (aar:∀(hk:k<bs.length),bs[k]≠x):(bs.dropWhile (·==x)).length=bs.length-k:=by
 induction bs generalizing k with
 |nil=>simp
 |cons b bs ih=>
  cases k with
  |zero=>
   have:=aar (by simp);rw[List.dropWhile_cons_of_neg (by simpa using this)];simp
  |succ k=>
   have h0:=dV 0 (by simp) (by omega)
   rw[List.dropWhile_cons_of_pos (by simpa using h0),ih k (by simpa using h) (fun j hj WL=>by
    have:=dV (j+1) (by simpa using hj) (by omega);simpa using this) (fun hk=>by have:=aar (by simpa using hk);simpa using this)]
   simp
theorem zS (A:Option Addr) (c:Nat) (bs:List UInt8) (x:UInt8) (w:World) (hs:Sl w w.heap.size A (B8 bs)) (sF:bs.length≤c):
 Calls Tryz.prog 211 #[.slice A bs.length c,.int .u8 (x.toNat:Int)] w fun e W'=>∃A' c',e=.returned (.slice A' (bs.dropWhile (·==x)).length c')∧W'=w:=by
 have Hbc:=aa sF;obtain⟨N,hN⟩:=ab bs.length;rw[←hN];have HN:=aa hN;clear sF hN;go_enter Tryz.func211,Tryz.ntmps211;go_wp2_with fail;go_loopw [0] (fun v wr=>∃k A' c' r,wr=w∧Hid (r+k=N)∧v=.slice A' r c'∧r≤c'∧(∀j (hj:j<bs.length),j<k→bs[j]=x)∧Sl w w.heap.size A' (B8 (bs.drop k))) (fun v _=>match v with|.slice _ n _=>n|_=>0)
 case atStart=>exact⟨0,A,c,N,rfl,aa rfl,rfl,by have:=Hbc.out;have:=HN.out;omega,fun j _ h=>absurd h (by omega),hs⟩
 case round=>
  obtain⟨k,A',c',r,rfl,Hr,rfl,hrc,dV,hsk⟩:=hrel;have hlen:(bs.drop k).length=r:=by have:=Hr.out;have:=HN.out;simp;omega
  by_cases WN:0<r
  · have JG:k<bs.length:=by have:=Hr.out;have:=HN.out;omega
    obtain⟨b,o,rfl,hb,db⟩:=hsk (by simp;omega);have h0:=db 0 (by simp;omega);rw[dd,Nat.add_zero] at h0;simp only[List.getElem_drop,Nat.add_zero] at h0;obtain⟨y,hy⟩:∃y,y=bs[k]:=⟨_,rfl⟩;rw[←hy] at h0;have Hhc:=aa db;have Hy:=aa hy;have WO:=aa hlen;have fN:=aa dV;clear db hy hlen dV
    by_cases Mo:y=x
    · have exy:(y.toNat:Int)=(x.toNat:Int):=by rw[Mo]
      go_wp2_with fail;refine⟨⟨k+1,_,c'-1,r-1,trivial,aa (by have:=Hr.out;omega),rfl,by omega,fun j hj WL=>?_,fun hn=>?_⟩,by simp;omega⟩
      · by_cases hjk':j<k
        · exact fN.out j hj hjk'
        obtain rfl:j=k:=by omega
        rw[←Hy.out,Mo]
      have U0:k+1<bs.length:=by simp at hn;omega
      have:=Hr.out;have:=HN.out;rw[if_neg (by omega)];refine⟨b,o+1,rfl,hb,fun j hj=>?_⟩;have yG:j<bs.length-(k+1):=by simpa using hj
      have h1:=Hhc.out (j+1) (by simp;omega);rw[show o+1+j=o+(j+1) by omega,h1];simp only[dd,List.getElem_drop,show k+(j+1)=k+1+j by omega]
    have exy:¬(y.toNat:Int)=(x.toNat:Int):=fun e=>Mo (UInt8.toNat_inj.1 (by omega))
    go_wp2_with fail;go_ret;refine⟨some ⟨b,o,none⟩,c',?_,rfl⟩;show Ending.returned (.slice (some ⟨b,o,none⟩) r c')=_;rw[qY bs x k (by omega) fN.out (fun hk=>by rw[←Hy.out];exact Mo),show bs.length-k=r from by have:=Hr.out;have:=HN.out;omega]
  obtain rfl:r=0:=by omega
  have JG:k=bs.length:=by have:=Hr.out;have:=HN.out;omega
  have Hkb:=aa JG;have fN:=aa dV;clear JG dV;go_wp2_with fail;go_ret;refine⟨none,0,?_,rfl⟩;show Ending.returned (.slice none 0 0)=_;rw[qY bs x k (by have:=Hkb.out;omega) fN.out (fun hk=>absurd hk (by have:=Hkb.out;omega)),show bs.length-k=0 from by have:=Hkb.out;omega]
theorem zU (A:Option Addr) (c:Nat) (bs:List UInt8) (w:World) (hs:Sl w w.heap.size A (B8 bs)) (sF:bs.length≤c):
 Calls Tryz.prog 207 #[.slice A bs.length c,.string ⟨#[49]⟩] w fun e W'=>∃A' c',e=.returned (.slice A' (bs.dropWhile (·==49)).length c')∧W'=w:=by
 by_cases hb:bs=[]
 · subst hb
   go_enter Tryz.func207,Tryz.ntmps207;go_wp2_with fail;go_ret;exact⟨_,_,rfl,rfl⟩
 have mE:0<bs.length:=List.length_pos_iff.2 hb;go_enter Tryz.func207,Tryz.ntmps207;go_wp2_with fail;refine(zS A c bs 49 w hs sF).mono ?_;rintro e w' ⟨A',c',rfl,rfl⟩;go_wp2_with fail;go_ret;exact⟨_,_,rfl,rfl⟩
theorem Ce (A:Option Addr) (c:Nat) (bs:List UInt8) (w:World) (hs:Sl w w.heap.size A (B8 bs)) (sF:bs.length≤c) (hl:bs.length≤4096):
 Calls Tryz.prog 180 #[.slice A bs.length c,.int .u8 49] w fun e W'=>e=.returned (.int .i64 ((bs.length-(bs.dropWhile (·==49)).length:Nat):Int))∧Below w.heap.size w W':=by
 have uQ:(bs.dropWhile (·==49)).length≤bs.length:=(List.dropWhile_sublist _).length_le;have zQ:Sl (w.alloc (.cells #[.int .u8 49] 5)) (w.heap.size+1) (some ⟨w.heap.size,0,none⟩) (B8 [49]):=Sl.one w _ _
 have mJ:=du (P:=Tryz.prog) (w.alloc (.cells #[.int .u8 49] 5)) 37 9 5 (by kernel_rfl) (by kernel_rfl) (by kernel_rfl) _ _ 1 [49] zQ
 simp only[agm,List.length_nil,Nat.zero_add] at mJ;have fj:Below w.heap.size w (w.alloc (.cells #[.int .u8 49] 5)):=(af5 _ w).alloc (af2 _) _
 have jY:=(hs.below fj).mono fj.size;obtain⟨D,hD⟩:∃D,D=(bs.dropWhile (·==49)).length:=⟨_,rfl⟩;have M5:=zU A c bs (w.alloc (.cells #[.int .u8 49] 5)) jY sF
 rw[←hD] at uQ M5⊢;have aas:=aa M5;clear hD M5 jY hs zQ sF;go_enter Tryz.func180,Tryz.ntmps180;go_wp2_with fail;refine aas.out.mono ?_;rintro e w' ⟨A',c',rfl,rfl⟩;go_wp2_with fail;go_ret;refine⟨?_,fj⟩;show Ending.returned (.int .i64 ((bs.length:Int)-(D:Int)))=_;rw[Int.ofNat_sub uQ]
end Go.Proofs.YtcjioogololnoaaGreatDoor
namespace Go.Proofs.YtcjioogololnoaaGreatDoor
open Go.RowKit
def rv (xs:List UInt8) (k:Nat):List UInt8:=(List.range xs.length).map fun m=>if m<k∨xs.length-k≤m then xs.getD (xs.length-1-m) 0 else xs.getD m 0
theorem nN (xs:List UInt8) (k:Nat):(rv xs k).length=xs.length:=by simp[rv]
theorem sJ (xs:List UInt8) (k m:Nat) (h:m<(rv xs k).length):(rv xs k)[m]=if m<k∨xs.length-k≤m then xs.getD (xs.length-1-m) 0 else xs.getD m 0:=by simp[rv]
theorem Sk (xs:List UInt8):rv xs 0=xs:=by
 apply List.ext_getElem (by simp[rv]);intro i h1 h2;rw[sJ,if_neg (by omega)];simp[h2]
theorem WV (xs:List UInt8) (k:Nat) (h:xs.length≤2*k+1):rv xs k=xs.reverse:=by
 apply List.ext_getElem (by simp[rv]);intro i h1 h2;have hi:i<xs.length:=by simpa using h2
 rw[sJ,List.getElem_reverse]
 by_cases hc:i<k∨xs.length-k≤i
 · rw[if_pos hc,agB,age (by omega)];rfl
 rw[if_neg hc,agB,age hi];have e:xs.length-1-i=i:=by omega
 simp only[e];rfl
theorem Sm (xs:List UInt8) (k:Nat) (h:k+1<xs.length-k):((rv xs k).set k (xs.getD (xs.length-1-k) 0)).set (xs.length-1-k) (xs.getD k 0)=rv xs (k+1):=by
 apply List.ext_getElem (by simp[rv]);intro i h1 h2;have hi:i<xs.length:=by simpa [rv] using h2
 rw[sJ,List.getElem_set,List.getElem_set]
 by_cases e1:xs.length-1-k=i
 · subst e1;rw[if_pos rfl,if_pos (by omega)];congr 1;omega
 rw[if_neg e1]
 by_cases e2:k=i
 · subst e2;rw[if_pos rfl,if_pos (by omega)]
 rw[if_neg e2,sJ]
 by_cases hc:i<k∨xs.length-k≤i
 · rw[if_pos hc,if_pos (by omega)]
 rw[if_neg hc,if_neg (by omega)]
theorem lU (A:Option Addr) (c:Nat) (bs:List UInt8) (w:World) (hs:Sl w w.heap.size A (B8 bs)) (hl:bs.length≤1048576):
 Calls Tryz.prog 62 #[.slice A bs.length c] w fun e W'=>∃v,e=.returned v∧Ow W' w.heap.size 5 v (B8 bs)∧Below w.heap.size w W':=by
 have uA:=fun w=>Lib.run_eql_slice_nil (P:=Tryz.prog) w 37 5 A bs.length c 0 0 Tryz.underlying37
 by_cases hb:bs=[]
 · subst hb
   simp only[List.length_nil] at uA⊢;clear hl hs
   cases A with
   |none=>
    go_enter Tryz.func62,Tryz.ntmps62;go_wp2;go_ret;exact⟨_,rfl,Ow.nil_ _ _ _ _,af5 _ _⟩
   |some ad=>
    go_enter Tryz.func62,Tryz.ntmps62;go_wp2_with (at_builtin;refine aq (m:=0) (c:=c) (base:=w.heap.size) (xs:=[]) (v:=.slice (some ⟨w.heap.size,0,none⟩) 0 0) (A:=some ad) (B:=w.heap.size) (news:=[]) jf rfl (.tmp 5) (.tmp 6) rfl rfl (Ow.nil_ _ _ _ _) rfl Sl.nil rfl (by simp) (by simp) (by simp) (by simp) ?_;intro v1 w1 jc jd jQ);go_ret;exact⟨v1,rfl,jc,((af5 _ w).alloc (af2 _) _).grown jd (by simp) (by simp[az])⟩
 have Hl:=aa hl;obtain⟨b,o,rfl,_⟩:=hs (by simpa using List.length_pos_iff.2 hb);clear hl hb;go_enter Tryz.func62,Tryz.ntmps62;go_wp2_with (at_builtin;refine aq (m:=bs.length) (c:=c) (base:=w.heap.size) (xs:=[]) (v:=.slice (some ⟨w.heap.size,0,none⟩) 0 0) (A:=some ⟨b,o,none⟩) (B:=w.heap.size) (news:=B8 bs) jf rfl (.tmp 5) (.tmp 6) rfl rfl (Ow.nil_ _ _ _ _) rfl (hs.alloc (af2 _) _) (B8_length _) (aG _) (by have:=Hl.out;simp[maxLen];omega) (by have:=Hl.out;simp;omega) (by simp) ?_;intro v1 w1 jc jd jQ);go_ret;exact⟨v1,rfl,by simpa using jc,((af5 _ w).alloc (af2 _) _).grown jd (by simp) (by simp[az])⟩
theorem Co (g o c:Nat) (l1 l3:List Value) (E:Nat) (bs:List UInt8) (w:World) (hh:w.heap[g]?=some (.cells (l1++B8 bs++l3).toArray E (0,0))) (ho:l1.length=o) (hl:bs.length≤4096):
 Calls Tryz.prog 196 #[.slice (some ⟨g,o,none⟩) bs.length c] w fun e W'=>e=.returned (.tuple #[])∧W'.heap[g]?=some (.cells (l1++B8 bs.reverse++l3).toArray E (0,0))∧w.grownBy W' (some g):=by
 have Ho:=aa ho;have Hh:=aa hh;clear ho hh;go_enter Tryz.func196,Tryz.ntmps196;go_wp2;go_loopw [2,3] (fun i j wr=>∃k:Nat,(2*k≤bs.length+1∧(0<k→2*k≤bs.length))∧i=.int .i64 k∧j=.int .i64 ((bs.length:Int)-1-(k:Int))∧wr.heap[g]?=some (.cells (l1++B8 (rv bs k)++l3).toArray E (0,0))∧w.grownBy wr (some g)) (fun i _ _=>bs.length+1-(intOf i).toNat)
 case atStart=>exact⟨0,by omega,rfl,by go_num,by rw[Sk];exact Hh.out,World.grownBy.refl _ _⟩
 case round=>
  obtain⟨k,hk,rfl,rfl,hh,hg⟩:=hrel
  by_cases aL:k+1<bs.length-k
  · obtain⟨m,hm⟩:∃m,m=bs.length-1-k:=⟨_,rfl⟩
    have vm:m<bs.length:=by omega
    have hkm:k<m:=by omega
    have e1:(bs.length:Int)-1-(k:Int)=(m:Int):=by omega
    have nq:k<bs.length:=by omega
    have cell:∀j (hj:j<bs.length),wr.cell? ⟨g,o+j,none⟩=some (.int .u8 (((rv bs k)[j]'(by rw[nN];exact hj)).toNat:Int)):=fun j hj=>by
     rw[agb wr g (o+j) _ _ _ hh];have h1:=Ho.out;subst h1;simp[B8,agv,agK,nN,hj]
    have ck:=cell k nq;have cm:=cell m vm;have fr:∀j,wr.frozen? ⟨g,o+j,none⟩=false:=fun j=>agF wr g (o+j) _ _ hh
    have fk:=fr k;have fm:=fr m;rw[e1];have Hm:=aa hm;have Hh:=aa hh;clear cell fr hm e1 hh;have bW:Tryz.prog.follows .mixedOrders=true:=by kernel_rfl
    go_wp2_with fail;refine an [(0,0),(1,0),(2,0),(3,0),(4,0),(5,0),(6,0),(7,1),(8,0),(9,0),(10,0),(11,1),(12,0),(13,2),(14,2),(15,2)] 13 bW (by kernel_rfl) (by intro c a d v w h;cases d<;>exact h) ?_
    repeat ((first|refine ag rfl fun K hK=>?_|refine af rfl fun K hK=>?_);go_simp;(first|refine hK _ ?_|(simp only[IntWalk.iteOmega];go_simp;refine hK _ ?_)|(go_bits;go_simp;refine hK _ ?_));clear hK K;try go_bits)
    refine ae rfl rfl (fun K hK=>?_);go_wp2;refine⟨.inl (by decide),?_⟩;refine ae rfl rfl (fun K hK=>?_);go_wp2;refine⟨.inl (by decide),?_⟩;refine ae rfl rfl (fun K hK=>?_);go_wp2;refine⟨.inl (by decide),ak ?_⟩;go_wp2;have hm:=Hm.out;have v1:(rv bs k)[m]'(by rw[nN];exact vm)=bs.getD (bs.length-1-k) 0:=by rw[sJ,if_neg (by omega),hm]
    have v2:(rv bs k)[k]'(by rw[nN];exact nq)=bs.getD k 0:=by rw[sJ,if_neg (by omega)]
    have st:l1++B8 (rv bs (k+1))++l3=((l1++B8 (rv bs k)++l3).set (o+k) (.int .u8 (((rv bs k)[m]'(by rw[nN];exact vm)).toNat:Int))).set (o+m) (.int .u8 (((rv bs k)[k]'(by rw[nN];exact nq)).toNat:Int)):=by
     have h1:=Ho.out;subst h1;rw[v1,v2,←Sm bs k aL,←hm];rw[agL,agL,List.set_append_right _ _ (by omega),List.set_append_right _ _ (by omega)];simp only[Nat.add_sub_cancel_left];rw[List.set_append_left _ _ (by simp[nN];omega),List.set_append_left _ _ (by simp[nN];omega)];simp[B8,List.map_set]
    refine⟨⟨k+1,by omega,by go_num,by go_num,?_,?_⟩,by simp[intOf];omega⟩
    · rw[st]
      exact(heap_setCell_same _ g (o+m) _ _ _ (heap_setCell_same wr g (o+k) _ _ _ Hh.out)).trans (by simp)
    refine World.grownBy.trans hg ⟨rfl,rfl,rfl,by simp[World.setCell,World.drew],fun j hj dt=>?_⟩;have aau:j≠g:=fun e=>dt (by rw[e])
    exact(ago _ ⟨g,o+m,none⟩ _ j aau).trans (ago wr ⟨g,o+k,none⟩ _ j aau)
  have e1:¬((k:Int)<(bs.length:Int)-1-(k:Int)):=by omega
  go_wp2;go_end0;exact⟨rfl,by rw[WV bs k (by omega)] at hh;simpa using hh,hg⟩
theorem x9 (A:Option Addr) (c:Nat) (w:World):
 Calls Tryz.prog 196 #[.slice A 0 c] w fun e W'=>e=.returned (.tuple #[])∧w=W':=by
 go_enter Tryz.func196,Tryz.ntmps196;go_wp2
 go_loop [2,3] (fun i j=>i=.int .i64 0∧j=.int .i64 (-1)) (fun _ _=>0)
 case atStart=>exact⟨rfl,rfl⟩
 case round=>
  obtain⟨rfl,rfl⟩:=hrel;go_wp2;go_end0;exact⟨rfl,rfl⟩
theorem ES (base E:Nat) (A:Option Addr) (n c:Nat) (bs:List UInt8) (w:World) (h:Ow w base E (.slice A n c) (B8 bs)) (hl:bs.length≤4096):
 Calls Tryz.prog 196 #[.slice A n c] w fun e W'=>e=.returned (.tuple #[])∧Ow W' base E (.slice A n c) (B8 bs.reverse)∧w.grownBy W' (az (.slice A n c)):=by
 have h0:=h;obtain⟨A',c',e,h1,h2,h3⟩:=h;injection e with e1 e2 e3;subst e1 e2 e3;simp only[B8_length] at h0 h1 h3⊢
 by_cases hc:c=0
 · have hb:bs=[]:=List.eq_nil_of_length_eq_zero (by omega)
   subst hb;refine(x9 A c w).mono fun e W' ⟨he,hw⟩=>?_
   subst hw;exact⟨he,h0,World.grownBy.refl _ _⟩
 obtain⟨g,cur,rfl,hb,hh,hs,ht⟩:=h3 (by omega)
 have acK:cur=([]++B8 bs++cur.toList.drop bs.length).toArray:=by
  apply Array.ext';simp only[agJ];rw[←ht,agH]
 rw[acK] at hh;have hr:az (.slice (some ⟨g,0,none⟩) bs.length c)=some g:=by simp[az,hc]
 refine(Co g 0 c [] (cur.toList.drop bs.length) E bs w hh rfl hl).mono fun e W' ⟨he,hh',hg⟩=>⟨he,?_,by rw[hr];exact hg⟩
 refine⟨_,c,by simp,by simpa using h1,h2,fun _=>⟨g,_,rfl,hb,hh',by simp;omega,by simp[List.take_append,af7]⟩⟩
theorem mK (A:Option Addr) (c:Nat) (bs:List UInt8) (w:World) (hs:Sl w w.heap.size A (B8 bs)) (hl:bs.length≤4096):
 Calls Tryz.prog 166 #[.slice A bs.length c] w fun e W'=>∃v,e=.returned v∧Ow W' w.heap.size 5 v (B8 bs.reverse)∧Below w.heap.size w W':=by
 go_enter Tryz.func166,Tryz.ntmps166;go_wp2_with fail;refine(lU A c bs w hs (by omega)).mono ?_;rintro e w1 ⟨v,rfl,ho,hb⟩;obtain⟨A1,c1,rfl⟩:∃A1 c1,v=.slice A1 bs.length c1:=by obtain⟨A1,c1,e,_⟩:=ho;exact⟨A1,c1,by simpa using e⟩
 go_wp2_with fail;refine(ES _ _ _ _ _ bs w1 ho hl).mono ?_;rintro e w2 ⟨rfl,nB,lv⟩;have aF:=ho.row;have hsz:=hb.size;go_wp2;go_ret;exact⟨_,rfl,nB,hb.grown lv hsz (fun g hg=>(aF g hg).1)⟩
theorem Cp (A:Option Addr) (m c:Nat) (w:World):
 Calls Tryz.prog 163 #[.slice A m c,.int .i64 0] w fun e W'=>∃v,e=.returned v∧Ow W' w.heap.size 5 v (B8 [])∧Below w.heap.size w W':=by
 go_enter Tryz.func163,Tryz.ntmps163;go_wp2;go_ret;exact⟨_,rfl,Ow.nil_ _ _ _ _,(af5 _ w).alloc (af2 _) _⟩
theorem Cq (n:Nat) (hn:n≤4096) (w:World):Calls Tryz.prog 194 #[.int .u64 1,.int .u64 n] w fun e w'=>e=.returned (.tuple #[.int .u64 0,.int .u64 n])∧w=w':=by
 refine(Tryz.bits_Mul 1 n (by omega) (by omega) w).mono fun e w' ⟨he,hw⟩=>⟨?_,hw.symm⟩
 rw[he,show 1*n/18446744073709551616=0 by omega,show 1*n%18446744073709551616=n by omega];rfl
theorem ET (b o c n:Nat) (x:UInt8) (hn:0<n) (Cr:n≤4096) (w:World) (hx:w.cell? ⟨b,o,none⟩=some (.int .u8 (x.toNat:Int))):
 Calls Tryz.prog 163 #[.slice (some ⟨b,o,none⟩) 1 c,.int .i64 n] w fun e W'=>∃v,e=.returned v∧Ow W' w.heap.size 5 v (B8 (List.replicate n x))∧Below w.heap.size w W':=by
 obtain⟨cs,U5,hle,aav⟩:=Lib.run_makeNoZero (P:=Tryz.prog) w #[3] 37 5 Tryz.underlying37 n (by omega)
 have Ev:=aav (by unfold maxLen;omega)
 have U6:(callFunc 127 #[.int .i64 (n:Int)]).run Tryz.prog w=.ok (.value (.slice (some ⟨w.heap.size,0,none⟩) n cs.size)) ((w.alloc (.cells cs 5)).drewN 2):=by
  rw[run_callFunc_extern Tryz.func127 (by kernel_rfl) (by kernel_rfl) (by kernel_rfl) (e:=Extern.BytealgMakeNoZero.makeNoZero #[3] #[37]) (by kernel_rfl),U5]
  rfl
 have h0:((n:Int)==0)=false:=by simp;omega
 have h1:¬((n:Int)<0):=by omega
 have h2:((n:Int)≤8192):=by omega
 obtain⟨g,hg⟩:=ab w.heap.size;have Hg:=aa hg;have Hcm:=aa Ev;clear U5 aav Ev;rw[←hg] at U6;clear hg;go_enter Tryz.func163,Tryz.ntmps163;go_wp2_with (first|(go_at_call 194;refine(Cq n Cr _).mono ?_;rintro e w' ⟨rfl,rfl⟩)|(at_builtin;fail)|(refine vk (g:=g) (off:=0) (dLen:=n) (dCap:=n) (A:=some ⟨b,o,none⟩) (sLen:=1) (sCap:=c) (cur:=cs) (t:=5) (cs:=[.int .u8 (x.toNat:Int)]) (B:=g) jf rfl (.tmp 58) (.tmp 59) rfl rfl rfl ?_ ?_ ?_ ?_ ?_ ?_;rotate_left 5;intro w1 gu;have Sn:=aa gu;clear gu))
 · have EP:(B8 (List.replicate n x)).length=n:=by simp
   have hh0:((w.alloc (Obj.cells cs 5)).drewN 2).heap[g]?=some (.cells cs 5 (0,0)):=by rw[Hg.out];exact af4 w _
   have Ey:Fill w1 g 5 cs.size (B8 (List.replicate n x)) (0+1):=by
    have h:=Fill.splice (k:=0) (m:=1) (xs:=B8 (List.replicate n x)) (cs:=[.int .u8 (x.toNat:Int)]) hh0 rfl (by omega) (by omega) (by omega) (by
     cases n with
     |zero=>omega
     |succ n=>simp[B8,List.replicate_succ])
    rw[Sn.out];simpa using h
   have aZ:Below w.heap.size w w1:=by
    rw[Sn.out];exact ah (zM ((af5 _ w).alloc (af2 _) _) 2) (by have:=Hg.out;omega) _
   clear hh0 U6 hx Sn;go_loopw [10] (fun i wr=>∃k:Nat,1≤k∧k≤n∧i=.int .i64 k∧Fill wr g 5 cs.size (B8 (List.replicate n x)) k∧Below w.heap.size w wr) (fun i _=>n-(intOf i).toNat)
   case atStart=>exact⟨1,by omega,by omega,rfl,by simpa using Ey,aZ⟩
   case round=>
    clear Ey aZ;obtain⟨k,nq,Ri,rfl,hF,hB⟩:=hrel
    by_cases aL:k<n
    · have bW:Tryz.prog.follows .mixedOrders=true:=by kernel_rfl
      obtain⟨cur,hh,hsz,hc⟩:=hF;have Na:min (k:Int) (n:Int)=(k:Int):=by omega
      have Rk:¬n=k:=by omega
      have pq:w.heap.size≤g:=by have:=Hg.out;omega
      have Hc:=aa hc;have Hh:=aa hh;have ra:=aa hsz;clear hc hh hsz;go_wp2_with (at_builtin;fail);refine an [(0,0),(1,0),(2,0),(3,0),(4,0),(5,0),(6,0),(7,2),(8,2),(9,2)] 7 bW (by kernel_rfl) (by intro c a d v w h;cases d<;>exact h) ?_
      repeat ((first|refine ag rfl fun K hK=>?_|refine af rfl fun K hK=>?_);go_simp;(first|refine hK _ ?_|(simp only[IntWalk.iteOmega];go_simp;refine hK _ ?_)|(go_bits;go_simp;refine hK _ ?_));clear hK K;try go_bits)
      refine ae rfl rfl (fun K hK=>?_);refine qh (g:=g) (off:=k) (dLen:=n-k) (dCap:=n-k) (A:=some ⟨g,0,none⟩) (sLen:=k) (sCap:=n) (cur:=cur) (t:=5) (cs:=B8 (List.replicate (min k (n-k)) x)) (B:=wr.heap.size) jf (.tmp 70) (.tmp 73) rfl rfl rfl Hh.out ?_ ?_ ?_ (aG _) ?_
      · simp[Nat.min_def]
      · intro _
        refine⟨g,0,rfl,(af3.1 Hh.out).1,fun j hj=>?_⟩;have hj2:j<k:=by simp at hj;omega
        have e:wr.drew.cell? ⟨g,0+j,none⟩=cur[0+j]?:=agb wr g (0+j) cur _ _ Hh.out;rw[e,Nat.zero_add,Hc.out j hj2];simp[B8,List.getElem?_replicate];omega
      · have:=ra.out;simp;omega
      obtain⟨w2,iN⟩:∃w2,w2=wr.drew.setRow g (cur.toList.take k++B8 (List.replicate (min k (n-k)) x)++cur.toList.drop (k+(B8 (List.replicate (min k (n-k)) x)).length)).toArray:=⟨_,rfl⟩;rw[←iN]
      have U7:Fill w2 g 5 cs.size (B8 (List.replicate n x)) (k+min k (n-k)):=by
       rw[iN];refine Fill.splice (w:=wr.drew) Hh.out ra.out Hc.out (by omega) (by rw[EP];omega) ?_;simp[B8]
      have jZ:Below w.heap.size w w2:=by rw[iN];exact ah hB.drew pq _
      have hl:((B8 (List.replicate (min k (n-k)) x)).length:Int)=((min k (n-k):Nat):Int):=by simp
      rw[hl];obtain⟨m,hm⟩:=ab (min k (n-k));rw[←hm] at U7⊢;have vm:1≤m:=by omega
      have xW:k+m≤n:=by omega
      clear iN hm hl;refine hK _ _ ⟨.inl (by decide),?_⟩;clear hK K;refine ae rfl rfl (fun K hK=>?_);go_wp2;refine⟨.inl (by decide),?_⟩;refine ae rfl rfl (fun K hK=>?_);go_wp2;refine⟨.inl (by decide),ak ?_⟩;go_wp2;refine⟨⟨k+m,by omega,by omega,by go_num,U7,jZ⟩,by simp[intOf];omega⟩
    obtain rfl:k=n:=by omega
    go_wp2;go_ret;obtain⟨cur,hh,hsz,hc⟩:=hF;have pq:=Hg.out;refine⟨_,rfl,⟨some ⟨g,0,none⟩,k,by simp,by simp,by unfold maxLen;omega,fun _=>⟨g,cur,rfl,by omega,hh,?_,?_⟩⟩,hB⟩
    · omega
    apply List.ext_getElem?;intro i;rw[EP,List.getElem?_take]
    by_cases hi:i<k
    · rw[if_pos hi,Array.getElem?_toList];exact hc i hi
    rw[if_neg hi,List.getElem?_eq_none (by omega)]
 · rw[Hg.out];exact af4 w _
 · have:Nat.min 1 n=1:=Nat.min_eq_left (by omega)
   simp[this]
 · intro _
   refine⟨b,o,rfl,by have:=block_lt_of_cell hx;rw[Hg.out];exact this,fun j hj=>?_⟩;have:j=0:=by simpa using hj
   subst this;exact(World.cell?_alloc_lt w _ _ (block_lt_of_cell hx)).trans hx
 · simp;omega
 intro v hv;simp at hv;subst hv;rfl
end Go.Proofs.YtcjioogololnoaaGreatDoor
