/- Whoever walks down with the secret signs what whoever walks down without it verifies, and the text of either walks the same way (StrongboxKeyed). No condition. -/
import Derived.Test.YtnlkdheaohocnaaGreatDoorU1
import Derived.OrdersHeld
import Derived.OrdersIn
import Derived.Below
import Derived.Deep.Draws
import Derived.Test.YtnlkdheaohocnaaGreatDoorU4
import Derived.Shelf.RegionOpen
import Derived.Lib.Hide
import Derived.Deep.MidRow
import Derived.Deep.WholeRow
set_option maxRecDepth 1000000
set_option maxHeartbeats 16000000
set_option linter.unusedVariables false
set_option linter.unusedSimpArgs false
namespace Go.Proofs.YtnlkdheaohocnaaGreatDoor
open Go Go.RowKit
def _root_.Go.World.ext (w:World) (oF:Array Obj) (d:Nat):World:={ w with heap:=w.heap++oF,drawn:=d }
def Ext (w w':World):Prop:=∃oF d,w'=w.ext oF d
theorem av {w w':World} (h:Below w.heap.size w w'):Ext w w':=by
 refine⟨w'.heap.extract w.heap.size w'.heap.size,w'.drawn,?_⟩
 have hh:w'.heap=w.heap++w'.heap.extract w.heap.size w'.heap.size:=by
  apply Array.ext_getElem?;intro i
  by_cases hi:i<w.heap.size
  · rw[h.block i hi,Array.getElem?_append_left hi]
  rw[Array.getElem?_append_right (by omega)];rw[Array.getElem?_extract]
  by_cases h2:i<w'.heap.size
  · rw[if_pos (by omega)];congr 1;omega
  rw[if_neg (by omega),Array.getElem?_eq_none (by omega)]
 cases w' with|mk hp tp dr os ou=>
 cases w with|mk hp2 tp2 dr2 os2 ou2=>
 obtain⟨rfl,rfl,rfl⟩:os=os2∧tp=tp2∧ou=ou2:=⟨h.os,h.tape,h.output⟩;simp only[World.ext] at hh⊢;rw[←hh]
theorem Ext.below {w w':World} (h:Ext w w'):Below w.heap.size w w':=by
 obtain⟨oF,d,rfl⟩:=h;exact⟨rfl,rfl,rfl,by simp[World.ext],fun k hk=>by simp[World.ext,Array.getElem?_append_left hk]⟩
theorem Ext.refl (w:World):Ext w w:=av (adl _ _)
theorem Ext.trans {a b c:World} (h:Ext a b) (k:Ext b c):Ext a c:=av (h.below.trans (k.below.mono h.below.size))
theorem bq (w:World) (o:Obj):Ext w (w.alloc o):=av ((adl _ w).alloc (adi _) o)
theorem iJ (w:World) (o:Obj):Ext w.drew (w.alloc o).drew:=av ⟨rfl,rfl,rfl,by simp,fun k hk=>Below.heap_alloc w o k hk⟩
theorem Ext.drew {a b:World} (h:Ext a b):Ext a b.drew:=av h.below.drew
@[go_sem] theorem cell?_ext (w:World) (oF:Array Obj) (d:Nat) (a:Addr) (h:(w.cell? a).isSome=true):(w.ext oF d).cell? a=w.cell? a:=by
 obtain⟨v,hv⟩:=Option.isSome_iff_exists.1 h;exact(Ext.below ⟨oF,d,rfl⟩).cell (World.block_lt_of_cell? w a hv)
@[go_sem] theorem frozen?_ext (w:World) (oF:Array Obj) (d:Nat) (a:Addr) (h:(w.cell? a).isSome=true):(w.ext oF d).frozen? a=w.frozen? a:=by
 obtain⟨v,hv⟩:=Option.isSome_iff_exists.1 h;exact(Ext.below ⟨oF,d,rfl⟩).frozen (World.block_lt_of_cell? w a hv)
section
variable {P:Program} {ops:Array Oper} {md:Region.Mode}
structure cF (P:Program) (ops:Array Oper) (Q:Act→World→Prop) (st:Nat→(Act→World→Prop)→Act→World→Prop):Prop where
 mono:∀{i:Nat} {K K':Act→World→Prop} {a:Act} {w:World},(∀a w,K a w→K' a w)→st i K a w→st i K' a w
 yield:∀{i:Nat} {o:Oper} {v:Value} {a:Act} {w:World} {K:Act→World→Prop} {S:World→Prop},ops[i]?=some o→YieldsIf P ops S o v a→S w→K (a.put o.dst v) w→st i K a w
 put:∀{j:Nat} {oi oj:Oper} {v:Value} {a:Act} {w:World} {K:Act→World→Prop} {S:World→Prop},ops[j]?=some oj→oi.apart ops oj=true→(∀cs b,oi.op≠ .select cs b)→(∀cs b,oj.op≠ .select cs b)→
  YieldsIf P ops S oi v a→st j K (a.put oi.dst v) w→st j (fun a' w'=>YieldsIf P ops S oi v a'∧K (a'.put oi.dst v) w') a w
variable {Q:Act→World→Prop} {st:Nat→(Act→World→Prop)→Act→World→Prop} {N:Nat}
def tb (N:Nat) (listed:Array Bool):Prop:=∃t,N≤t∧listed.getD t false=true
theorem RJ {N i:Nat} {listed:Array Bool} (hi:i<N):tb N (listed.setIfInBounds i true)↔tb N listed:=by
 unfold tb;constructor
 · rintro⟨t,ht,h⟩;exact⟨t,ht,by rwa [getD_set_ne false (by omega)] at h⟩
 rintro⟨t,ht,h⟩;exact⟨t,ht,getD_set_true h⟩
theorem Fk {N i:Nat} {listed:Array Bool} (h:tb N listed):tb N (listed.setIfInBounds i true):=by
 obtain⟨t,ht,h⟩:=h;exact⟨t,ht,getD_set_true h⟩
def eL (md:Region.Mode) (ops:Array Oper) (Q:Act→World→Prop) (st:Nat→(Act→World→Prop)→Act→World→Prop) (N:Nat) (S:World→Prop):Nat→Array Bool→Act→World→Prop
 |0,listed,a,w=>Region.ready md ops listed=[]∧Q a w
 |fuel+1,listed,a,w=>(Region.ready md ops listed=[]→Q a w)∧
  ∀i∈Region.ready md ops listed,st i (fun a' w'=>(tb N (listed.setIfInBounds i true)∨S w')∧eL md ops Q st N S fuel (listed.setIfInBounds i true) a' w') a w
def Closed (md:Region.Mode) (ops:Array Oper) (listed:Array Bool):Prop:=
 listed.size=ops.size∧∀j oj,ops[j]?=some oj→listed.getD j false=true→∀e∈oj.after,Region.binds md e=true→listed.getD e.on false=true
def Vg (md:Region.Mode) (ops:Array Oper):Nat→Nat→Nat→Bool
 |0,_,_=>false
 |f+1,j,i=>match ops[j]? with
  |some oj=>oj.after.any fun e=>Region.binds md e&&(e.on==i||Vg md ops f e.on i)
  |none=>false
theorem o8 {listed:Array Bool} (hc:Closed md ops listed):∀(f j i:Nat),listed.getD j false=true→Vg md ops f j i=true→listed.getD i false=true:=by
 intro f
 induction f with
 |zero=>intro j i _ h;cases h
 |succ f ih=>
  intro j i hj h;unfold Vg at h;split at h
  · rename_i oj ho
    obtain⟨e,he,hb⟩:=Array.any_eq_true'.1 h;simp only[adx,Bool.or_eq_true,beq_iff_eq] at hb;have hl:=hc.2 j oj ho hj e he hb.1;rcases hb.2 with rfl|h2
    · exact hl
    exact ih e.on i hl h2
  cases h
theorem Closed.set {listed:Array Bool} (hc:Closed md ops listed) {i:Nat} (hi:i∈Region.ready md ops listed):Closed md ops (listed.setIfInBounds i true):=by
 obtain⟨_,o,ho,dc⟩:=mem_ready.1 hi;refine⟨by simpa using hc.1,?_⟩;intro j oj hj hl e he hb
 by_cases Od:i=j
 · subst Od
   have:oj=o:=Option.some.inj (hj.symm.trans ho);subst this;exact getD_set_true (dc e he hb)
 rw[getD_set_ne false Od] at hl;exact getD_set_true (hc.2 j oj hj hl e he hb)
theorem ee {listed:Array Bool} {i:Nat} (h:listed.getD i true=false):listed.getD i false=false:=by
 rcases Nat.lt_or_ge i listed.size with h'|h'
 · simp[h'] at h⊢;exact h
 simp[Array.getElem?_eq_none h'] at h
theorem kW (L:cF P ops Q st) {S S':World→Prop} (hS:∀w,S' w→S w):∀(fuel:Nat) (listed:Array Bool) (a:Act) (w:World),eL md ops Q st N S' fuel listed a w→eL md ops Q st N S fuel listed a w
 |0,_,_,_,h=>h
 |fuel+1,_,_,_,h=>⟨h.1,fun i hi=>L.mono (fun a' w' h'=>⟨h'.1.imp id (hS _),kW L hS fuel _ a' w' h'.2⟩) (h.2 i hi)⟩
theorem cV (L:cF P ops Q st) {S S1:World→Prop} {i:Nat} {oi:Oper} {v:Value} (hi:ops[i]?=some oi) (dm:∀(j:Nat) (o:Oper) cs b,ops[j]?=some o→o.op≠ .select cs b) (na:i<N)
 (Ql:∀listed w,Closed md ops listed→listed.getD i true=false→tb N listed∨S w→S1 w):
 ∀(fuel:Nat) (listed:Array Bool) (a:Act) (w:World),Closed md ops listed→
  (∀j oj,ops[j]?=some oj→j≠i→listed.getD j true=false→(∀e∈oj.after,Region.binds md e=true→e.on≠i)→oi.apart ops oj=true)→
  i∈Region.ready md ops listed→YieldsIf P ops S1 oi v a→(tb N listed∨S w)→
  eL md ops Q st N S fuel (listed.setIfInBounds i true) (a.put oi.dst v) w→eL md ops Q st N S (fuel+1) listed a w:=by
 intro fuel
 induction fuel with
 |zero=>
  intro listed a w gb Kn hr hy hS H;refine⟨fun h=>(by rw[h] at hr;cases hr),fun j hj=>?_⟩
  by_cases JQ:j=i
  · subst JQ;exact L.yield hi hy (Ql listed w gb (mem_ready.1 hr).1 hS) ⟨hS.imp Fk id,H⟩
  have:=ready_mono hj JQ;rw[H.1] at this
  cases this
 |succ fuel ih=>
  intro listed a w gb Kn hr hy hS H;refine⟨fun h=>(by rw[h] at hr;cases hr),fun j hj=>?_⟩
  by_cases JQ:j=i
  · subst JQ;exact L.yield hi hy (Ql listed w gb (mem_ready.1 hr).1 hS) ⟨hS.imp Fk id,H⟩
  have h1:=H.2 j (ready_mono hj JQ);obtain⟨Oe,oj,RL,dc⟩:=mem_ready.1 hj
  have aar:∀e∈oj.after,Region.binds md e=true→e.on≠i:=fun e he hb heq=>by
   have h1:=dc e he hb;have h0:=(mem_ready.1 hr).1;rw[heq] at h1;rcases Nat.lt_or_ge i listed.size with h'|h'
   · simp[h'] at h0 h1;rw[h0] at h1;cases h1
   simp[Array.getElem?_eq_none h'] at h1
  have h2:=L.put RL (Kn j oj RL JQ Oe aar) (fun cs b=>dm i oi cs b hi) (fun cs b=>dm j oj cs b RL) hy h1
  have RN:∀k ok,ops[k]?=some ok→k≠i→(listed.setIfInBounds j true).getD k true=false→
   (∀e∈ok.after,Region.binds md e=true→e.on≠i)→oi.apart ops ok=true:=fun k ok hk RO pL CU=>by
   refine Kn k ok hk RO ?_ CU
   by_cases Fl:j=k
   · subst Fl;exact Oe
   rw[getD_set_ne true Fl] at pL;exact pL
  refine L.mono (fun a' w' h3=>?_) h2
  have hS':tb N (listed.setIfInBounds j true)∨S w':=by
   have:=h3.2.1;rw[Array.setIfInBounds_comm _ _ (Ne.symm JQ),RJ na] at this;exact this
  refine⟨hS',ih (listed.setIfInBounds j true) a' w' (gb.set hj) RN (ready_mono hr (Ne.symm JQ)) h3.1 hS' ?_⟩;rw[Array.setIfInBounds_comm _ _ JQ];exact h3.2.2
def jo (md:Region.Mode) (ops:Array Oper) (N:Nat):List (Nat×Nat)→Array Bool→Bool
 |[],listed=>Region.ready md ops listed==[]
 |(i,k)::rest,listed=>
  (if k=0 then (Region.ready md ops listed).contains i&&Region.free md ops listed i&&decide (i<N)
   else if k=1 then (Region.ready md ops listed).contains i&&Region.free md ops listed i&&decide (i<N)&&((List.range ops.size).all fun j=>decide (j<N)||Vg md ops ops.size j i)
   else (Region.ready md ops listed==[i])&&(decide (i<N)||rest.all fun p=>decide (2≤p.2)&&decide (N≤p.1)))&&jo md ops N rest (listed.setIfInBounds i true)
def aI (P:Program) (ops:Array Oper) (Q:Act→World→Prop) (st:Nat→(Act→World→Prop)→Act→World→Prop) (N:Nat):List (Nat×Nat)→Act→World→Prop
 |[],a,w=>Q a w
 |(i,k)::rest,a,w=>
  if k=0 then (match ops[i]? with
   |none=>False
   |some o=>∃v,YieldsIf P ops (fun _=>True) o v a∧aI P ops Q st N rest (a.put o.dst v) w)
  else if k=1 then (match ops[i]? with
   |none=>False
   |some o=>∃v,YieldsIf P ops (Ext w) o v a∧aI P ops Q st N rest (a.put o.dst v) w)
  else st i (fun a' w'=>(N≤i∨Ext w w')∧aI P ops Q st N rest a' w') a w
theorem tM (L:cF P ops Q st) {S:World→Prop}:∀(bV:List (Nat×Nat)) (listed:Array Bool) (a:Act) (w:World) (extra:Nat),
 jo md ops N bV listed=true→(bV.all fun p=>decide (2≤p.2)&&decide (N≤p.1))=true→listed.size=ops.size→aI P ops Q st N bV a w→eL md ops Q st N S (bV.length+extra) listed a w
 |[],listed,a,w,extra,hB,_,_,h=>by
  have hr:Region.ready md ops listed=[]:=by simpa [jo] using hB
  cases extra with
  |zero=>exact⟨hr,h⟩
  |succ e=>exact⟨fun _=>h,by rw[hr];simp⟩
 |(i,k)::rest,listed,a,w,extra,hB,hA,eD,h=>by
  simp only[List.all_cons,adx,adB] at hA;have iR:¬k=0:=by omega
  have ko:¬k=1:=by omega
  simp only[jo,iR,ko,if_false,adx] at hB;obtain⟨⟨hr,_⟩,du⟩:=hB;have hr:Region.ready md ops listed=[i]:=by simpa using hr
  rw[adz,show rest.length+1+extra=rest.length+extra+1 by omega];refine⟨fun h0=>(by rw[h0] at hr;cases hr),fun j hj=>?_⟩;rw[hr] at hj;obtain rfl:j=i:=by simpa using hj
  have aV:j<listed.size:=by
   have zB:j∈Region.ready md ops listed:=by rw[hr];simp
   obtain⟨_,o,ho,_⟩:=mem_ready.1 zB;rw[eD];exact(adg.1 ho).1
  simp only[aI,iR,ko,if_false] at h;exact L.mono (fun a' w' h'=>⟨.inl ⟨j,hA.1.2,by simp[aV]⟩,tM L rest _ a' w' extra du (by simpa using hA.2) (by simpa using eD) h'.2⟩) h
theorem ic (L:cF P ops Q st) (dm:Region.noSelect ops=true):∀(bV:List (Nat×Nat)) (listed:Array Bool) (a:Act) (w w0:World) (extra:Nat),
 jo md ops N bV listed=true→Closed md ops listed→listed.size=ops.size→Ext w0 w→aI P ops Q st N bV a w→eL md ops Q st N (Ext w0) (bV.length+extra) listed a w
 |[],listed,a,w,w0,extra,hB,_,_,_,h=>by
  have hr:Region.ready md ops listed=[]:=by simpa [jo] using hB
  cases extra with
  |zero=>exact⟨hr,h⟩
  |succ e=>exact⟨fun _=>h,by rw[hr];simp⟩
 |(i,k)::rest,listed,a,w,w0,extra,hB,gb,eD,hE,h=>by
  have Of:=hB
  by_cases iR:k=0
  · simp only[jo,iR,if_true,adx,adB] at hB
    obtain⟨⟨⟨hr,hf⟩,na⟩,du⟩:=hB;have mV:i∈Region.ready md ops listed:=by simpa using hr
    simp only[aI,iR,if_true] at h;split at h
    · exact h.elim
    rename_i o ho;obtain⟨v,hy,hK⟩:=h;have nj:=ic L dm rest (listed.setIfInBounds i true) (a.put o.dst v) w w0 extra du (gb.set mV) (by simpa using eD) hE hK;have h1:=cV L (S:=Ext w0) (S1:=fun _=>True) ho (Region.noSelect_spec dm) na (fun _ _ _ _ _=>trivial) (rest.length+extra) listed a w gb (Region.free_spec ho hf) mV hy (.inr hE) nj;rw[adz,show rest.length+1+extra=rest.length+extra+1 by omega];exact h1
  by_cases ko:k=1
  · subst ko
    simp only[jo,if_true,adx,adB,Nat.one_ne_zero,if_false] at hB;obtain⟨⟨⟨⟨hr,hf⟩,na⟩,Ko⟩,du⟩:=hB;have mV:i∈Region.ready md ops listed:=by simpa using hr
    simp only[aI,if_true,Nat.one_ne_zero,if_false] at h;split at h
    · exact h.elim
    rename_i o ho;obtain⟨v,hy,hK⟩:=h;have nj:=ic L dm rest (listed.setIfInBounds i true) (a.put o.dst v) w w extra du (gb.set mV) (by simpa using eD) (Ext.refl w) hK
    have h1:=cV L (S:=Ext w) (S1:=Ext w) ho (Region.noSelect_spec dm) na (fun l w' hc hu ht=>by
     rcases ht with ⟨t,ht,hl⟩|h
     · exfalso
       have Fm:t<ops.size∨¬t<ops.size:=Decidable.em _;rcases Fm with Fm|Fm
       · have:=List.all_eq_true.1 Ko t (List.mem_range.2 Fm)
         simp only[Bool.or_eq_true,adB] at this;have:=o8 hc _ _ _ hl (this.resolve_left (by omega));rw[ee hu] at this
         cases this
       ·
        rw[show l.getD t false=false by simp[Array.getElem?_eq_none (show l.size≤t by rw[hc.1];omega)]] at hl
        cases hl
     exact h) (rest.length+extra) listed a w gb (Region.free_spec ho hf) mV hy (.inr (Ext.refl w)) nj
    rw[adz,show rest.length+1+extra=rest.length+extra+1 by omega];exact kW L (fun w' GA=>hE.trans GA) _ _ _ _ h1
  simp only[jo,iR,ko,if_false,adx] at hB;obtain⟨⟨hr,ht⟩,du⟩:=hB
  by_cases na:N≤i
  · refine tM L ((i,k)::rest) listed a w extra Of ?_ eD h
    simp only[Bool.or_eq_true,adB] at ht;have:=ht.resolve_left (by omega);simp only[List.all_cons,this,na,decide_true,Bool.and_true,adB];omega
  have hr:Region.ready md ops listed=[i]:=by simpa using hr
  have mV:i∈Region.ready md ops listed:=by rw[hr];simp
  rw[adz,show rest.length+1+extra=rest.length+extra+1 by omega];refine⟨fun h0=>(by rw[h0] at hr;cases hr),fun j hj=>?_⟩;rw[hr] at hj;obtain rfl:j=i:=by simpa using hj
  simp only[aI,iR,ko,if_false] at h;refine L.mono (fun a' w' h'=>?_) h;have vH:=hE.trans (h'.1.resolve_left na);exact⟨.inr vH,ic L dm rest _ a' w' w0 extra du (gb.set mV) (by simpa using eD) vH h'.2⟩
def fJ (w:World) (v:Value):Result Next→Prop
 |.ok (.value u) w'=>w'=w∧u=v
 |_=>False
def Fo (P:Program) (o:Oper) (a:Act) (w:World) (K:Act→Prop):Prop:=∃v,(∀oF d,fJ (w.ext oF d) v ((execOp a.eval o).run P (w.ext oF d)))∧K (a.put o.dst v)
def Dl (P:Program) (o:Oper) (a:Act) (K:Act→Prop):Prop:=∃v,(∀W,fJ W v ((execOp a.eval o).run P W))∧K (a.put o.dst v)
theorem ao {i:Nat} {rest:List (Nat×Nat)} {o:Oper} {a:Act} {w:World} (ho:ops[i]?=some o)
 (h:∀K:Act→Prop,(∀a,aI P ops Q st N rest a w→K a)→if Region.wanted o (yielded ops a.tmps) then Dl P o a K else K (a.put o.dst undef)):
 aI P ops Q st N ((i,0)::rest) a w:=by
 have h:=h _ (fun _ h=>h);simp only[aI,if_true,ho];split at h
 · rename_i hw
   obtain⟨v,hv,hK⟩:=h;refine⟨v,.inl ⟨hw,fun w' _=>?_⟩,hK⟩;have:=hv w';generalize (execOp a.eval o).run P w'=r at*
   cases r with
   |ok n w'=>
    cases n<;>simp only[fJ] at this
    obtain⟨rfl,rfl⟩:=this;rfl
   |halt x w'=>simp only[fJ] at this
 rename_i hw;exact⟨undef,.inr ⟨by simpa using hw,rfl⟩,h⟩
theorem aD {i:Nat} {rest:List (Nat×Nat)} {o:Oper} {a:Act} {w:World} (ho:ops[i]?=some o)
 (h:∀K:Act→Prop,(∀a,aI P ops Q st N rest a w→K a)→if Region.wanted o (yielded ops a.tmps) then Fo P o a w K else K (a.put o.dst undef)):
 aI P ops Q st N ((i,1)::rest) a w:=by
 have h:=h _ (fun _ h=>h);simp only[aI,if_true,ho,Nat.one_ne_zero,if_false];split at h
 · rename_i hw
   obtain⟨v,hv,hK⟩:=h;refine⟨v,.inl ⟨hw,fun w' GA=>?_⟩,hK⟩;obtain⟨oF,d,rfl⟩:=GA;have:=hv oF d;generalize (execOp a.eval o).run P (w.ext oF d)=r at*
   cases r with
   |ok n w'=>
    cases n<;>simp only[fJ] at this
    obtain⟨rfl,rfl⟩:=this;rfl
   |halt x w'=>simp only[fJ] at this
 rename_i hw;exact⟨undef,.inr ⟨by simpa using hw,rfl⟩,h⟩
theorem aB {a:Act} {w:World} (h:Q a w):aI P ops Q st N [] a w:=h
end
attribute [go_sem] Fo fJ Dl
section
variable {P:Program} {ops:Array Oper} {N:Nat}
theorem aJ (Q:Exit→Act→World→Prop) (hQ:∀c a d v w,Q (.panic c) (Act.put a d v) w→Q (.panic c) a w):cF P ops (Q .normal) (fun i K a w=>wpOp P ops Q i K a w):=
 ⟨fun h hh=>wpOp_mono h hh,fun ho hy hS hK=>hy.wpOp ho hS hK,fun hj NI Wk Wl hy h=>wpOp_putIf hj NI Wk Wl (fun c a w h=>hQ c _ _ _ w h) hy h⟩
theorem ie {Q:Exit→Act→World→Prop} {S:World→Prop}:∀(fuel:Nat) (listed:Array Bool) (a:Act) (w:World),eL .any ops (Q .normal) (fun i K a w=>wpOp P ops Q i K a w) N S fuel listed a w→wpAny P .any ops Q fuel listed a w
 |0,_,_,_,h=>h
 |fuel+1,_,_,_,h=>⟨h.1,fun i hi=>wpOp_mono (fun a' w' h'=>ie fuel _ a' w' h'.2) (h.2 i hi)⟩
theorem aE {id:Nat} {Q:Exit→Act→World→Prop} {a:Act} {w:World} {l:List Oper} (bV:List (Nat×Nat)) (N:Nat) (hm:P.follows .mixedOrders=true)
 (hB:(Region.noSelect l.toArray&&decide (bV.length=l.length)&&jo .any l.toArray N bV (Array.replicate l.length false))=true) (hQ:∀c a d v w,Q (.panic c) (Act.put a d v) w→Q (.panic c) a w)
 (h:aI P l.toArray (Q .normal) (fun i K a w=>wpOp P l.toArray Q i K a w) N bV a w.drew):(Code.region id l.toArray true).wp P Q a w:=by
 simp only[adx,adB] at hB;refine wp_region_any hm ?_
 have:=ic (aJ Q hQ) hB.1.1 bV (Array.replicate l.length false) a w.drew w.drew 0 hB.2 ⟨by simp,fun j oj hj hl=>by
  rcases Nat.lt_or_ge j l.length with h|h
  · simp[h] at hl
  simp[h] at hl⟩ (by simp) (Ext.refl _) h
 rw[Nat.add_zero,hB.1.2] at this;have:=ie _ _ _ _ this;simpa using this
theorem ah {i:Nat} {rest:List (Nat×Nat)} {o:Oper} {a:Act} {w:World} {Q:Exit→Act→World→Prop} (ho:ops[i]?=some o) (hg:o.guard=none)
 (h:∀K:Act→World→Prop,(∀a' w',((N≤i∨Ext w w')∧aI P ops (Q .normal) (fun i K a w=>wpOp P ops Q i K a w) N rest a' w')→K a' w')→o.wp P a w K Q):
 aI P ops (Q .normal) (fun i K a w=>wpOp P ops Q i K a w) N ((i,2)::rest) a w:=by
 simp only[aI,show¬(2=0) by decide,show¬(2=1) by decide,if_false,wpOp,ho,Region.wanted,hg,if_true];exact .inl (h _ (fun _ _ h=>h))
def Region.noDefer (ops:Array Oper):Bool:=ops.all fun o=>match o.op with|.defer _=>false|_=>true
theorem pM (h:Region.noDefer ops=true) (j:Nat) (o:Oper) (ho:ops[j]?=some o):∀c,o.op≠ .defer c:=by
 intro c heq;have:=Array.all_eq_true_iff_forall_mem.1 h o (Array.mem_of_getElem? ho);simp[heq] at this
variable {F:Fence} {n:Nat}
theorem YieldsIf.wpOpIn {S:World→Prop} {Q:Exit→Act→World→Prop} (hF:∀k,F.fn k) (vI:Region.noDefer ops=true) {i:Nat} {o:Oper} {v:Value} {a:Act} (hi:ops[i]?=some o) (hy:YieldsIf P ops S o v a)
 {K:Act→World→Prop} {w:World} (hS:S w) (h:K (a.put o.dst v) w):wpOpIn F n P ops Q i K a w:=by
 unfold Go.wpOpIn;simp only[hi];rcases hy with ⟨hw,hv⟩|⟨hw,rfl⟩
 · simp only[hw,if_true,Oper.wpIn,Oper.semAt_eq _ _ _ (pM vI i o hi),hv w hS,Oper.uponIn];exact⟨fun f _=>hF f,h⟩
 simp only[hw,Bool.false_eq_true,if_false];exact⟨fun f _=>hF f,h⟩
theorem yb {S:World→Prop} {Q:Exit→Act→World→Prop} (hF:∀k,F.fn k) (vI:Region.noDefer ops=true) {j:Nat} {oi oj:Oper} {v:Value} (hj:ops[j]?=some oj) (NI:oi.apart ops oj=true)
 (Wk:∀cs b,oi.op≠ .select cs b) (Wl:∀cs b,oj.op≠ .select cs b)
 (hQ:∀c a d v w,Q (.panic c) (Act.put a d v) w→Q (.panic c) a w) {K:Act→World→Prop} {a:Act} {w:World}
 (hy:YieldsIf P ops S oi v a) (h:wpOpIn F n P ops Q j K (a.put oi.dst v) w):
 wpOpIn F n P ops Q j (fun a' w'=>YieldsIf P ops S oi v a'∧K (a'.put oi.dst v) w') a w:=by
 obtain⟨h1,h2,h3⟩:=Oper.apart_spec NI
 have keep:∀(a:Act),YieldsIf P ops S oi v a→∀u,YieldsIf P ops S oi v (a.put oj.dst u):=fun a hy u=>
  hy.of_same (execOp_put oi Wk a oj.dst u h3) (wanted_put oi a oj.dst u h3)
 have Wm:∀d,YieldsIf P ops S oi v { a with defers:=d::a.defers }:=fun d=>hy.of_same rfl rfl
 have hnj:=pM vI j oj hj;unfold wpOpIn at*;simp only[hj] at*;rw[wanted_put oj a oi.dst v h1] at h;split
 · rename_i hw
   simp only[hw,if_true] at h;unfold Oper.wpIn at*;refine⟨fun f _=>hF f,?_⟩;have h:=h.2;rw[Oper.semAt_eq _ _ _ hnj] at h⊢;rw[execOp_put oj Wl a oi.dst v h1] at h;generalize (execOp a.eval oj).run P w=r at*
   cases r with
   |ok m w'=>
    cases m<;>simp only[Oper.uponIn] at h⊢
    case value u=>exact⟨keep a hy u,by rw[←Act.put_comm a v u h2];exact h⟩
    case skip=>exact⟨keep a hy _,by rw[←Act.put_comm a v undef h2];exact h⟩
    case defer d=>
     refine⟨keep _ (Wm d) _,?_⟩;rw[←Act.put_comm _ v undef h2,←Act.put_defers];exact h
    case enter f args=>
     refine⟨h.1,CallsIn.mono h.2 fun e Vh he=>?_⟩
     cases e with
     |returned u=>exact⟨keep a hy u,by rw[←Act.put_comm a v u h2];exact he⟩
     |panicked c=>exact hQ _ _ _ _ _ he
     |outgrown=>exact he
    case row row args=>exact⟨h.1,RowsIn.mono h.2 fun u Vh he=>⟨keep a hy u,by rw[←Act.put_comm a v u h2];exact he⟩⟩
    case round=>
     refine⟨h.1,RoundIn.mono h.2 fun e Vh he=>?_⟩
     cases e with
     |returned u=>exact⟨keep a hy u,by rw[←Act.put_comm a v u h2];exact he⟩
     |panicked c=>exact hQ _ _ _ _ _ he
     |outgrown=>exact he
   |halt x w'=>
    cases x<;>simp only[Oper.uponIn] at h⊢
    case panic u=>exact hQ _ _ _ _ _ h
 rename_i hw;simp only[hw] at h;exact⟨fun f _=>hF f,keep a hy _,by rw[←Act.put_comm a v undef h2];exact h.2⟩
theorem tN (Q:Exit→Act→World→Prop) (hF:∀k,F.fn k) (vI:Region.noDefer ops=true) (hQ:∀c a d v w,Q (.panic c) (Act.put a d v) w→Q (.panic c) a w):cF P ops (Q .normal) (fun i K a w=>wpOpIn F n P ops Q i K a w):=
 ⟨fun h hh=>wpOpIn_mono h hh,fun ho hy hS hK=>YieldsIf.wpOpIn hF vI ho hy hS hK,fun hj NI Wk Wl hy h=>yb hF vI hj NI Wk Wl hQ hy h⟩
theorem mr {Q:Exit→Act→World→Prop} {S:World→Prop}:∀(fuel:Nat) (listed:Array Bool) (a:Act) (w:World),eL .any ops (Q .normal) (fun i K a w=>wpOpIn F n P ops Q i K a w) N S fuel listed a w→wpAnyIn F n P .any ops Q fuel listed a w
 |0,_,_,_,h=>h
 |fuel+1,_,_,_,h=>⟨h.1,fun i hi=>wpOpIn_mono (fun a' w' h'=>mr fuel _ a' w' h'.2) (h.2 i hi)⟩
theorem dq {id:Nat} {Q:Exit→Act→World→Prop} {a:Act} {w:World} {l:List Oper} (bV:List (Nat×Nat)) (N:Nat) (hF:∀k,F.fn k) (hm:P.follows .mixedOrders=true)
 (hB:(Region.noSelect l.toArray&&Region.noDefer l.toArray&&decide (bV.length=l.length)&&jo .any l.toArray N bV (Array.replicate l.length false))=true) (hQ:∀c a d v w,Q (.panic c) (Act.put a d v) w→Q (.panic c) a w)
 (h:aI P l.toArray (Q .normal) (fun i K a w=>wpOpIn F n P l.toArray Q i K a w) N bV a w.drew):(Code.region id l.toArray true).wpIn F n P Q a w:=by
 simp only[adx,adB] at hB;refine wpIn_region_any hm ?_
 have:=ic (tN (F:=F) (n:=n) Q hF hB.1.1.2 hQ) hB.1.1.1 bV (Array.replicate l.length false) a w.drew w.drew 0 hB.2 ⟨by simp,fun j oj hj hl=>by
  rcases Nat.lt_or_ge j l.length with h|h
  · simp[h] at hl
  simp[h] at hl⟩ (by simp) (Ext.refl _) h
 rw[Nat.add_zero,hB.1.2] at this;have:=mr _ _ _ _ this;simpa using this
theorem bW {i:Nat} {rest:List (Nat×Nat)} {o:Oper} {a:Act} {w:World} {Q:Exit→Act→World→Prop} (ho:ops[i]?=some o) (hg:o.guard=none)
 (h:∀K:Act→World→Prop,(∀a' w',((N≤i∨Ext w w')∧aI P ops (Q .normal) (fun i K a w=>wpOpIn F n P ops Q i K a w) N rest a' w')→K a' w')→o.wpIn F n P a w K Q):
 aI P ops (Q .normal) (fun i K a w=>wpOpIn F n P ops Q i K a w) N ((i,2)::rest) a w:=by
 simp only[aI,show¬(2=0) by decide,show¬(2=1) by decide,if_false,wpOpIn,ho,Region.wanted,hg,if_true];exact h _ (fun _ _ h=>h)
end
end Go.Proofs.YtnlkdheaohocnaaGreatDoor
namespace Go.Proofs.YtnlkdheaohocnaaGreatDoor
open Go.RowKit Go.Shelf
def q8 (m:Nat) (i:Nat):List UInt8:=((List.range i).map fun j=>UInt8.ofNat (m/256^j)).reverse
def eF (n:Nat) (i:Nat):List UInt8:=128::(List.replicate (63-(n%64+8)%64+(8-i)) 0++q8 (n*8) i)
theorem nk (m i:Nat):(q8 m i).length=i:=by simp[q8]
theorem jR (n i:Nat) (h:i≤8):(eF n i).length=63-(n%64+8)%64+9:=by simp[eF,nk];omega
theorem wT (m i:Nat):q8 m (i+1)=UInt8.ofNat (m/256^i)::q8 m i:=by simp[q8,List.range_succ]
theorem GB (n i:Nat) (h:i<8):(eF n i).set (63-(n%64+8)%64+9-1-i) (UInt8.ofNat (n*8/256^i))=eF n (i+1):=by
 obtain⟨f,hf⟩:∃f,f=63-(n%64+8)%64:=⟨_,rfl⟩;rw[eF,eF,wT,←hf];rw[show f+9-1-i=(f+(7-i))+1 by omega,List.set_cons_succ,show f+(8-i)=f+(7-i)+1 by omega,List.replicate_succ',List.append_assoc];rw[List.set_append_right _ _ (by simp)];simp only[List.length_replicate,Nat.sub_self,List.singleton_append,List.set_cons_zero];rw[show 8-(i+1)=7-i by omega]
theorem wU (n k:Nat):((n:Int)*8/2^(8*k)%256)=((UInt8.ofNat (n*8/256^k)).toNat:Int):=by
 rw[UInt8.toNat_ofNat',show (256:Nat)=2^8 from rfl,←Nat.pow_mul];rw[Int.natCast_emod,Int.natCast_ediv,Int.natCast_mul,Int.natCast_pow];rfl
theorem tO (n:Nat) (hn:n≤8192) (w:World):
 Calls Tryz.prog 97 #[.int .u64 n,.int .i64 64,.int .i64 8] w fun e w'=>∃v,e=.returned v∧Ow w' w.heap.size 5 v (B8 (eF n 8))∧Below w.heap.size w w':=by
 obtain⟨i0,hi,jh,kV,mo⟩:=info_parts tf;obtain⟨f,hf⟩:∃f,f=63-(n%64+8)%64:=⟨_,rfl⟩;have aas:f≤63:=by omega
 have hmk:=qV (P:=Tryz.prog) 22 5 i0 _ 1 Tryz.underlying22 hi jh kV mo rfl .i64 .i64 (1+(f:Int)+8) (1+(f:Int)+8) (f+9) (f+9) (by omega) (by omega) (adi _) (by omega) (by unfold maxLen;omega);have he:(63:Int)-((n:Int)+8)%64=(f:Int):=by omega
 have Hf:=ab hf;clear hf;go_enter Tryz.func97,Tryz.ntmps97;go_wp2_with fail;go_loopw [29] (fun i wr=>∃k:Nat,k≤8∧i=.int .i64 k∧Ow wr w.heap.size 5 (.slice (some ⟨w.heap.size,0,none⟩) (f+9) (f+9)) (B8 (eF n k))∧Below w.heap.size w wr) (fun i _=>8-(intOf i).toNat)
 case atStart=>
  have Og:=Ow.of_row (w:=w) ((Array.replicate (f+9) (Value.int IntKind.u8 0)).setIfInBounds 0 (Value.int IntKind.u8 128)) 5 w.heap.size (adi _) (cap:=f+9) (by simp) (by unfold maxLen;omega) (f+9) (adi _);refine⟨0,adF _,rfl,?_,(adl _ w).alloc (adi _) _⟩
  have e:((Array.replicate (f+9) (Value.int IntKind.u8 0)).setIfInBounds 0 (Value.int IntKind.u8 128)).toList.take (f+9)=B8 (eF n 0):=by
   rw[ady (by simp),eF,←Hf.out];simp[B8,q8,List.replicate_succ,Array.toList_setIfInBounds]
  rw[e] at Og;exact Og
 case round=>
  obtain⟨k,hk,rfl,ho,hB⟩:=hrel
  by_cases aV:k<8
  · obtain⟨m,hm⟩:∃m,m=f+9-1-k:=⟨_,rfl⟩
    have em:(f:Int)+9-1-(k:Int)=(m:Int):=by omega
    have Kp:m<f+9:=by omega
    have hlen:=jR n k hk;rw[←Hf.out] at hlen;obtain⟨g,sH,hg,bG,aS,wV⟩:=ho.at_ (j:=m) (by simp[hlen];exact Kp);injection sH with sH;injection sH with sH;subst sH;obtain⟨cv,JR⟩:∃cv,wr.cell? ⟨w.heap.size,m,none⟩=some cv:=⟨_,aS⟩;clear aS;have Hm:=ab hm;clear hm hlen bG;go_wp2_with fail;have fT:=ho.store m (by omega) (Value.int IntKind.u8 ((n:Int)*8/2^(8*k)%256))
    rw[show (B8 (eF n k)).set m (Value.int IntKind.u8 ((n:Int)*8/2^(8*k)%256))=B8 (eF n (k+1)) from by
     rw[←GB n k aV,←Hf.out,←Hm.out,wU];simp[B8,List.map_set]] at fT
    refine⟨⟨k+1,by omega,rfl,fT,hB.setCell (adi _) _⟩,by simp[intOf];omega⟩
  go_wp2_with fail;obtain rfl:k=8:=by omega
  go_ret;exact⟨_,rfl,ho,hB⟩
end Go.Proofs.YtnlkdheaohocnaaGreatDoor
namespace Go.Proofs.YtnlkdheaohocnaaGreatDoor
def o9:List (BitVec 64):=[0x428a2f98d728ae22,0x7137449123ef65cd,0xb5c0fbcfec4d3b2f,0xe9b5dba58189dbbc,0x3956c25bf348b538,0x59f111f1b605d019,0x923f82a4af194f9b,0xab1c5ed5da6d8118,0xd807aa98a3030242,0x12835b0145706fbe,0x243185be4ee4b28c,0x550c7dc3d5ffb4e2,0x72be5d74f27b896f,0x80deb1fe3b1696b1,0x9bdc06a725c71235,0xc19bf174cf692694,0xe49b69c19ef14ad2,0xefbe4786384f25e3,0x0fc19dc68b8cd5b5,0x240ca1cc77ac9c65,0x2de92c6f592b0275,0x4a7484aa6ea6e483,0x5cb0a9dcbd41fbd4,0x76f988da831153b5,0x983e5152ee66dfab,0xa831c66d2db43210,0xb00327c898fb213f,0xbf597fc7beef0ee4,0xc6e00bf33da88fc2,0xd5a79147930aa725,0x06ca6351e003826f,0x142929670a0e6e70,0x27b70a8546d22ffc,0x2e1b21385c26c926,0x4d2c6dfc5ac42aed,0x53380d139d95b3df,0x650a73548baf63de,0x766a0abb3c77b2a8,0x81c2c92e47edaee6,0x92722c851482353b,0xa2bfe8a14cf10364,0xa81a664bbc423001,0xc24b8b70d0f89791,0xc76c51a30654be30,0xd192e819d6ef5218,0xd69906245565a910,0xf40e35855771202a,0x106aa07032bbd1b8,0x19a4c116b8d2d0c8,0x1e376c085141ab53,0x2748774cdf8eeb99,0x34b0bcb5e19b48a8,0x391c0cb3c5c95a63,0x4ed8aa4ae3418acb,0x5b9cca4f7763e373,0x682e6ff3d6b2b8a3,0x748f82ee5defb2fc,0x78a5636f43172f60,0x84c87814a1f0ab72,0x8cc702081a6439ec,0x90befffa23631e28,0xa4506cebde82bde9,0xbef9a3f7b2c67915,0xc67178f2e372532b,0xca273eceea26619c,0xd186b8c721c0c207,0xeada7dd6cde0eb1e,0xf57d4f7fee6ed178,0x06f067aa72176fba,0x0a637dc5a2c898a6,0x113f9804bef90dae,0x1b710b35131c471b,0x28db77f523047d84,0x32caab7b40c72493,0x3c9ebe0a15c9bebc,0x431d67c49c100d4c,0x4cc5d4becb3e42b6,0x597f299cfc657e2a,0x5fcb6fab3ad6faec,0x6c44198c4a475817]
def lR:List (BitVec 64):=[0x6a09e667f3bcc908,0xbb67ae8584caa73b,0x3c6ef372fe94f82b,0xa54ff53a5f1d36f1,0x510e527fade682d1,0x9b05688c2b3e6c1f,0x1f83d9abfb41bd6b,0x5be0cd19137e2179]
theorem jq:o9.length=80:=by decide
theorem kY:lR.length=8:=by decide
theorem Ac (k x:BitVec 64) (st:List (BitVec 64)):(Kf k x st).length=st.length:=by
 unfold Kf;split<;>rfl
theorem yd (ks:List (BitVec 64)) (bs:List UInt8) (st:List (BitVec 64)) (k:Nat):(sa ks bs st k).length=st.length:=by
 induction k with
 |zero=>rfl
 |succ k ih=>rw[sa,Ac,ih]
theorem oQ (ks:List (BitVec 64)) (bs:List UInt8) (st:List (BitVec 64)):(jJ ks bs st).length=st.length:=by
 rw[jJ,List.length_zipWith,yd,Nat.min_self]
def lS (st:List (BitVec 64)) (m:List UInt8):Nat→List (BitVec 64)
 |0=>st
 |j+1=>jJ o9 ((m.drop (128*j)).take 128) (lS st m j)
theorem kZ (st:List (BitVec 64)) (m:List UInt8) (j:Nat):(lS st m j).length=st.length:=by
 induction j with
 |zero=>rfl
 |succ k ih=>rw[lS,oQ,ih]
def Wn (x:BitVec 64):List UInt8:=(List.range 8).map fun j=>UInt8.ofNat (x.toNat/2^(56-8*j))
def kQ (st:List (BitVec 64)):List UInt8:=st.flatMap Wn
theorem nl (st:List (BitVec 64)):(kQ st).length=8*st.length:=by
 induction st with
 |nil=>rfl
 |cons x st ih=>
  rw[kQ,List.flatMap_cons,adv,adz];rw[kQ] at ih;rw[ih];simp[Wn];omega
def mW (n:Nat):List UInt8:=128::(List.replicate (127-(n%128+16)%128+8) 0++q8 (n*8) 8)
def sI (b:List UInt8):List UInt8:=b++mW b.length
theorem nm (b:List UInt8):(sI b).length=b.length+(127-(b.length%128+16)%128+17):=by
 simp[sI,mW,nk]
theorem Ae (b:List UInt8):(sI b).length%128=0:=by rw[nm];omega
def mu (b:List UInt8):List UInt8:=kQ (lS lR (sI b) ((sI b).length/128))
theorem ir (b:List UInt8):(mu b).length=64:=by rw[mu,nl,kZ,kY]
def Af (key:List UInt8):List UInt8:=if 128<key.length then mu key++List.replicate 64 0 else key++List.replicate (128-key.length) 0
theorem sd (key:List UInt8):(Af key).length=128:=by
 unfold Af;split
 · simp[ir]
 simp;omega
def bF (key b:List UInt8):List UInt8:=mu ((Af key).map (· ^^^ 92)++mu ((Af key).map (· ^^^ 54)++b))
theorem dK (key b:List UInt8):(bF key b).length=64:=ir _
end Go.Proofs.YtnlkdheaohocnaaGreatDoor
namespace Go.Proofs.YtnlkdheaohocnaaGreatDoor
open Go Go.RowKit Go.Shelf
theorem Oh (a c n:Nat) (h:c<2^n):a*2^n ||| c=a*2^n+c:=by
 rw[Nat.mul_comm,←Nat.two_pow_add_eq_or_of_lt h]
theorem Oi (x:BitVec 64) (y:UInt8):x<<<8 ||| y.toBitVec.setWidth 64=x*256+y.toBitVec.setWidth 64:=by
 have hy:=y.toNat_lt;apply BitVec.eq_of_toNat_eq;rw[BitVec.toNat_or,BitVec.toNat_add,BitVec.toNat_mul,BitVec.toNat_shiftLeft,BitVec.toNat_setWidth,UInt8.toNat_toBitVec,show BitVec.toNat (256:BitVec 64)=256 from rfl,adu (show y.toNat<2^64 by omega),Nat.shiftLeft_eq];rw[show x.toNat*2^8%2^64=(x.toNat%2^56)*2^8 by omega,Oh _ _ 8 (by omega)];omega
theorem Oj (x:BitVec 64) (y:UInt8):(x.toNat:Int)*256%18446744073709551616+(y.toNat:Int)=((x*256+y.toBitVec.setWidth 64).toNat:Int):=by
 have h:=y.toNat_lt;rw[BitVec.toNat_add,BitVec.toNat_mul,BitVec.toNat_setWidth,UInt8.toNat_toBitVec,show BitVec.toNat (256:BitVec 64)=256 from rfl];omega
theorem pN (xs:List (BitVec 64)):(dY xs).toArray.all (·.oneCell')=true:=all_oneCell_toArray fun v hv=>by
 obtain⟨x,_,rfl⟩:=List.mem_map.1 hv;rfl
theorem Ag (b:List UInt8):(sI b).length≤b.length+144:=by rw[nm];omega
theorem Fp (st:List (BitVec 64)) (k:Nat) (h:k<8*st.length):(kQ st)[k]?=some (UInt8.ofNat ((st[k/8]'(by omega)).toNat/2^(56-8*(k%8)))):=by
 induction st generalizing k with
 |nil=>simp at h
 |cons x st ih=>
  rw[kQ,List.flatMap_cons];have hl:(Wn x).length=8:=by simp[Wn]
  by_cases hk:k<8
  · rw[adG (by omega)]
    simp only[Wn,List.getElem?_map,List.getElem?_range hk,Option.map_some];simp only[show k/8=0 by omega,show k%8=k by omega,List.getElem_cons_zero]
  rw[adC (by omega),hl];have:=ih (k-8) (by simp at h;omega);rw[kQ] at this;rw[this];simp only[show k/8=(k-8)/8+1 by omega,List.getElem_cons_succ,show (k-8)%8=k%8 by omega]
def jr (b:List UInt8) (t:Nat):List Value:=dY ((o7 b).take t)++List.replicate (80-t) (.int .u64 0)
theorem js (b:List UInt8) (t:Nat) (h:t≤80):(jr b t).length=80:=by simp[jr,eE];omega
theorem Ol (b:List UInt8) (t:Nat) (h:t<80):(jr b t)[t]?=some (.int .u64 0):=by
 rw[jr,adC (by simp[eE];omega)];have hl:(dY ((o7 b).take t)).length=t:=by simp[eE];omega
 rw[hl,Nat.sub_self,show 80-t=(80-(t+1))+1 by omega,List.replicate_succ];rfl
theorem pO (b:List UInt8) (t:Nat) (h:t<80):(jr b t).set t (.int .u64 ((lK b t).toNat:Int))=jr b (t+1):=by
 have hl:(dY ((o7 b).take t)).length=t:=by simp[eE];omega
 rw[jr,List.set_append_right _ _ (by omega),hl,Nat.sub_self,show 80-t=(80-(t+1))+1 by omega,List.replicate_succ,List.set_cons_zero,jr];have hw:(o7 b)[t]?=some (lK b t):=by simp[o7,h]
 rw[List.take_add_one,hw];simp[dY]
theorem fp (b:List UInt8) (t j:Nat) (h:t≤80) (hj:j<t):(jr b t)[j]?=(dY (o7 b))[j]?:=by
 rw[jr,adG (by simp[eE];omega)];simp[dY,List.getElem?_take,hj]
end Go.Proofs.YtnlkdheaohocnaaGreatDoor
namespace Go.Proofs.YtnlkdheaohocnaaGreatDoor
open Go.RowKit Go.Shelf
def jK (n:Nat) (i:Nat):List UInt8:=128::(List.replicate (127-(n%128+16)%128+8+(8-i)) 0++q8 (n*8) i)
theorem lD (n i:Nat) (h:i≤8):(jK n i).length=127-(n%128+16)%128+17:=by simp[jK,nk];omega
theorem pa (n:Nat):jK n 8=mW n:=rfl
theorem Dm (n i:Nat) (h:i<8):(jK n i).set (127-(n%128+16)%128+17-1-i) (UInt8.ofNat (n*8/256^i))=jK n (i+1):=by
 obtain⟨f,hf⟩:∃f,f=127-(n%128+16)%128:=⟨_,rfl⟩;rw[jK,jK,wT,←hf];rw[show f+17-1-i=(f+8+(7-i))+1 by omega,List.set_cons_succ,show f+8+(8-i)=f+8+(7-i)+1 by omega,List.replicate_succ',List.append_assoc];rw[List.set_append_right _ _ (by simp)];simp only[List.length_replicate,Nat.sub_self,List.singleton_append,List.set_cons_zero];rw[show 8-(i+1)=7-i by omega]
theorem Dn (n:Nat):(mW n).set (127-(n%128+16)%128+8) 0=mW n:=by
 obtain⟨f,hf⟩:∃f,f=127-(n%128+16)%128:=⟨_,rfl⟩;rw[mW,←hf,show f+8=(f+7)+1 by omega,List.set_cons_succ];congr 1;rw[List.set_append_left _ _ (by simp)];congr 1;apply List.ext_getElem?;intro x;rw[List.getElem?_set];split
 · rename_i e;subst e;simp
 rfl
theorem vJ (l:List UInt8) (m:Nat):(B8 (l.set m 0)).set m (Value.int IntKind.u8 0)=B8 (l.set m 0):=by
 simp[B8,List.map_set]
theorem Kq (w:World):Calls Tryz.prog 96 #[] w fun e w'=>e=.returned (.agg (dY o9).toArray)∧Below w.heap.size w w':=by
 obtain⟨kc,oR⟩:∃kc,kc=(dY o9).toArray:=⟨_,rfl⟩;have eD:kc.size=80:=by rw[oR];simp[jq]
 have h1:kc.all (·.oneCell')=true:=by rw[oR];simp[dY];intro x _;rfl
 have lU:(Tryz.prog.info? 145).map (·.size)=some kc.size:=by rw[eD];kernel_rfl
 have JS:=ab oR;have nn:=ab eD;have H1:=ab h1;have fe:=ab lU;clear oR eD h1 lU;go_enter Tryz.func96,Tryz.ntmps96;go_wp2_with (first|(refine wpList_build rfl 145 _ rfl (by kernel_rfl) ?_;rw[show (Tryz.prog.built 145 _).getD #[]=kc from by rw[JS.out];kernel_rfl];refine ado rfl 145 (.tmp 0) (.tmp 1) rfl w.heap.size kc rfl rfl 145 _ (adk w _) fe.out nn.out.symm H1.out ?_) )
 refine adm (v:=.agg kc) ?_ rfl ⟨by rw[JS.out],au ((adl _ w).alloc (adi _) _) (adi _) _⟩;exact adr rfl _ _ w.heap.size 145 kc (0,0) (.array 80 65) rfl (adt _ _ _ _ _ _ (adk w _)) (by kernel_rfl) rfl fe.out
theorem GD (n:Nat) (hn:n≤8192) (w:World):
 Calls Tryz.prog 97 #[.int .u64 n,.int .i64 128,.int .i64 16] w fun e w'=>∃v,e=.returned v∧Ow w' w.heap.size 5 v (B8 (mW n))∧Below w.heap.size w w':=by
 obtain⟨i0,hi,jh,kV,mo⟩:=info_parts tf;obtain⟨f,hf⟩:∃f,f=127-(n%128+16)%128:=⟨_,rfl⟩;have aas:f≤127:=by omega
 have hmk:=qV (P:=Tryz.prog) 22 5 i0 _ 1 Tryz.underlying22 hi jh kV mo rfl .i64 .i64 (1+(f:Int)+16) (1+(f:Int)+16) (f+17) (f+17) (by omega) (by omega) (adi _) (by omega) (by unfold maxLen;omega);have he:(127:Int)-((n:Int)+16)%128=(f:Int):=by omega
 have Hf:=ab hf;clear hf;go_enter Tryz.func97,Tryz.ntmps97;go_wp2_with fail;go_loopw [29] (fun i wr=>∃k:Nat,k≤8∧i=.int .i64 k∧Ow wr w.heap.size 5 (.slice (some ⟨w.heap.size,0,none⟩) (f+17) (f+17)) (B8 (jK n k))∧Below w.heap.size w wr) (fun i _=>8-(intOf i).toNat)
 case atStart=>
  have Og:=Ow.of_row (w:=w) ((Array.replicate (f+17) (Value.int IntKind.u8 0)).setIfInBounds 0 (Value.int IntKind.u8 128)) 5 w.heap.size (adi _) (cap:=f+17) (by simp) (by unfold maxLen;omega) (f+17) (adi _);refine⟨0,adF _,rfl,?_,(adl _ w).alloc (adi _) _⟩
  have e:((Array.replicate (f+17) (Value.int IntKind.u8 0)).setIfInBounds 0 (Value.int IntKind.u8 128)).toList.take (f+17)=B8 (jK n 0):=by
   rw[ady (by simp),jK,←Hf.out];simp[B8,q8,List.replicate_succ,Array.toList_setIfInBounds]
  rw[e] at Og;exact Og
 case round=>
  obtain⟨k,hk,rfl,ho,hB⟩:=hrel
  by_cases aV:k<8
  · obtain⟨m,hm⟩:∃m,m=f+17-1-k:=⟨_,rfl⟩
    have em:(f:Int)+17-1-(k:Int)=(m:Int):=by omega
    have Kp:m<f+17:=by omega
    have hlen:=lD n k hk;rw[←Hf.out] at hlen;obtain⟨g,sH,hg,bG,aS,wV⟩:=ho.at_ (j:=m) (by simp[hlen];exact Kp);injection sH with sH;injection sH with sH;subst sH;obtain⟨cv,JR⟩:∃cv,wr.cell? ⟨w.heap.size,m,none⟩=some cv:=⟨_,aS⟩;clear aS;have Hm:=ab hm;clear hm hlen bG;go_wp2_with fail;have fT:=ho.store m (by omega) (Value.int IntKind.u8 ((n:Int)*8/2^(8*k)%256))
    rw[show (B8 (jK n k)).set m (Value.int IntKind.u8 ((n:Int)*8/2^(8*k)%256))=B8 (jK n (k+1)) from by
     rw[←Dm n k aV,←Hf.out,←Hm.out,wU];simp[B8,List.map_set]] at fT
    refine⟨⟨k+1,by omega,rfl,fT,hB.setCell (adi _) _⟩,by simp[intOf];omega⟩
  obtain rfl:k=8:=by omega
  rw[pa] at ho;obtain⟨m,hm⟩:∃m,m=f+8:=⟨_,rfl⟩;have em:(f:Int)+17-9=(m:Int):=by omega
  have Kp:m<f+17:=by omega
  have hlen:=lD n 8 (adi _);rw[←Hf.out,pa] at hlen;obtain⟨g,sH,hg,bG,aS,wV⟩:=ho.at_ (j:=m) (by simp[hlen];exact Kp);injection sH with sH;injection sH with sH;subst sH;obtain⟨cv,JR⟩:∃cv,wr.cell? ⟨w.heap.size,m,none⟩=some cv:=⟨_,aS⟩;clear aS;have Hm:=ab hm;have acm:(n:Int)/2305843009213693952=0:=by omega
  clear hm hlen bG;go_wp2_with fail;have fT:=ho.store m (by omega) (Value.int IntKind.u8 0)
  rw[show (B8 (mW n)).set m (Value.int IntKind.u8 0)=B8 (mW n) from by
   rw[←Dn n,←Hf.out,←Hm.out,vJ]] at fT
  go_ret;exact⟨_,rfl,fT,hB.setCell (adi _) _⟩
end Go.Proofs.YtnlkdheaohocnaaGreatDoor
namespace Go.Proofs.YtnlkdheaohocnaaGreatDoor
open Go.RowKit
def Keys (w:World) (B:Nat) (A:Option Addr) (ks:List (List UInt8)):Prop:=
 0<ks.length→∃b o,A=some ⟨b,o,none⟩∧b<B∧∀j (h:j<ks.length),∃Aj cj,w.cell? ⟨b,o+j,none⟩=some (.slice Aj ks[j].length cj)∧Sl w B Aj (B8 ks[j])∧ks[j].length≤cj∧cj≤maxLen
section
variable {w w':World} {B B':Nat} {A:Option Addr} {ks:List (List UInt8)}
theorem Keys.below (h:Keys w B A ks) (hb:Below B w w'):Keys w' B A ks:=fun hn=>by
 obtain⟨b,o,e,KK,hc⟩:=h hn;refine⟨b,o,e,KK,fun j hj=>?_⟩;obtain⟨Aj,cj,h1,h2,h3⟩:=hc j hj;exact⟨Aj,cj,(hb.cell (p:=⟨b,o+j,none⟩) KK).trans h1,h2.below hb,h3⟩
theorem Keys.mono (h:Keys w B A ks) (hB:B≤B'):Keys w B' A ks:=fun hn=>by
 obtain⟨b,o,e,KK,hc⟩:=h hn;refine⟨b,o,e,by omega,fun j hj=>?_⟩;obtain⟨Aj,cj,h1,h2,h3⟩:=hc j hj;exact⟨Aj,cj,h1,h2.mono hB,h3⟩
theorem Keys.take (h:Keys w B A ks) (n:Nat):Keys w B A (ks.take n):=fun hn=>by
 obtain⟨b,o,e,KK,hc⟩:=h (by simp at hn;omega);refine⟨b,o,e,KK,fun j hj=>?_⟩;obtain⟨Aj,cj,h1,h2,h3⟩:=hc j (by simp at hj;omega);rw[List.getElem_take];exact⟨Aj,cj,h1,h2,h3⟩
theorem Keys.at_ (h:Keys w B A ks) {k:Nat} (hk:k<ks.length):∃b o,A=some ⟨b,o,none⟩∧b<B∧∃Aj cj,w.cell? ⟨b,o+k,none⟩=some (.slice Aj ks[k].length cj)∧Sl w B Aj (B8 ks[k])∧ks[k].length≤cj∧cj≤maxLen:=by
 obtain⟨b,o,e,KK,hc⟩:=h (by omega);exact⟨b,o,e,KK,hc k hk⟩
end
end Go.Proofs.YtnlkdheaohocnaaGreatDoor
namespace Go.Proofs.YtnlkdheaohocnaaGreatDoor
open Go.RowKit Go.Shelf
def sN:List (BitVec 32):=[0x428a2f98,0x71374491,0xb5c0fbcf,0xe9b5dba5,0x3956c25b,0x59f111f1,0x923f82a4,0xab1c5ed5,0xd807aa98,0x12835b01,0x243185be,0x550c7dc3,0x72be5d74,0x80deb1fe,0x9bdc06a7,0xc19bf174,0xe49b69c1,0xefbe4786,0x0fc19dc6,0x240ca1cc,0x2de92c6f,0x4a7484aa,0x5cb0a9dc,0x76f988da,0x983e5152,0xa831c66d,0xb00327c8,0xbf597fc7,0xc6e00bf3,0xd5a79147,0x06ca6351,0x14292967,0x27b70a85,0x2e1b2138,0x4d2c6dfc,0x53380d13,0x650a7354,0x766a0abb,0x81c2c92e,0x92722c85,0xa2bfe8a1,0xa81a664b,0xc24b8b70,0xc76c51a3,0xd192e819,0xd6990624,0xf40e3585,0x106aa070,0x19a4c116,0x1e376c08,0x2748774c,0x34b0bcb5,0x391c0cb3,0x4ed8aa4a,0x5b9cca4f,0x682e6ff3,0x748f82ee,0x78a5636f,0x84c87814,0x8cc70208,0x90befffa,0xa4506ceb,0xbef9a3f7,0xc67178f2]
def oH:List (BitVec 32):=[0x6a09e667,0xbb67ae85,0x3c6ef372,0xa54ff53a,0x510e527f,0x9b05688c,0x1f83d9ab,0x5be0cd19]
theorem jw:sN.length=64:=by decide
theorem AI:oH.length=8:=by decide
theorem G2 (w:World):Calls Tryz.prog 111 #[] w fun e w'=>e=.returned (.agg (cg oH).toArray)∧Below w.heap.size w w':=by
 go_enter Tryz.func111,Tryz.ntmps111;go_wp2_with fail;refine adm (v:=.agg (cg oH).toArray) ?_ rfl ⟨rfl,(adl _ w).alloc (adi _) _⟩;exact adr rfl _ _ w.heap.size 123 (cg oH).toArray (0,0) (.array 8 27) rfl (adk w _) (by kernel_rfl) rfl (by kernel_rfl)
theorem AJ (w:World):Calls Tryz.prog 112 #[] w fun e w'=>e=.returned (.agg (cg sN).toArray)∧Below w.heap.size w w':=by
 obtain⟨kc,oR⟩:∃kc,kc=(cg sN).toArray:=⟨_,rfl⟩;have eD:kc.size=64:=by rw[oR];simp[jw]
 have h1:kc.all (·.oneCell')=true:=by rw[oR];simp[cg];intro x _;rfl
 have lU:(Tryz.prog.info? 165).map (·.size)=some kc.size:=by rw[eD];kernel_rfl
 have JS:=ab oR;have nn:=ab eD;have H1:=ab h1;have fe:=ab lU;clear oR eD h1 lU;go_enter Tryz.func112,Tryz.ntmps112;go_wp2_with (first|(refine wpList_build rfl 165 _ rfl (by kernel_rfl) ?_;rw[show (Tryz.prog.built 165 _).getD #[]=kc from by rw[JS.out];kernel_rfl];refine ado rfl 165 (.tmp 0) (.tmp 1) rfl w.heap.size kc rfl rfl 165 _ (adk w _) fe.out nn.out.symm H1.out ?_) )
 refine adm (v:=.agg kc) ?_ rfl ⟨by rw[JS.out],au ((adl _ w).alloc (adi _) _) (adi _) _⟩;exact adr rfl _ _ w.heap.size 165 kc (0,0) (.array 64 27) rfl (adt _ _ _ _ _ _ (adk w _)) (by kernel_rfl) rfl fe.out
end Go.Proofs.YtnlkdheaohocnaaGreatDoor
