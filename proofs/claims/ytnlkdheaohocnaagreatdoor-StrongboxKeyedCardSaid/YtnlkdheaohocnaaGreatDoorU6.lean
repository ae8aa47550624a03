/- Whoever walks down with the secret signs what whoever walks down without it verifies, and the text of either walks the same way (StrongboxKeyed). No condition. -/
import Derived.Test.YtnlkdheaohocnaaGreatDoorU1
import Derived.Test.YtnlkdheaohocnaaGreatDoorU5
import Derived.Laws.Rows
import Derived.Laws.Tables
import Derived.Deep.MidRow
import Derived.Test.YtnlkdheaohocnaaGreatDoorU4
set_option maxRecDepth 1000000
set_option maxHeartbeats 16000000
set_option linter.unusedVariables false
set_option linter.unusedSimpArgs false
namespace Go.Proofs.YtnlkdheaohocnaaGreatDoor
open Go Go.RowKit
section
variable {P:Program} {ops:Array Oper} {md:Region.Mode}
def Dp (P:Program) (W:World) (v:Value):Result Next→Prop
 |.ok (.value u) W'=>u=v∧Ext W W'
 |.ok (.enter f args) W1=>Calls P f args W1 fun e W'=>e=.returned v∧Ext W W'
 |_=>False
def Gives (P:Program) (o:Oper) (w:World) (v:Value) (a:Act):Prop:=∀W,Ext w W→Dp P W v ((execOp a.eval o).run P W)
def Kr (P:Program) (ops:Array Oper) (i:Nat) (K:Act→World→Prop) (a:Act) (w:World):Prop:=match ops[i]? with
 |none=>False
 |some o=>∃v,Gives P o w v a∧K (a.put o.dst v) w
def GivesL (P:Program) (ops:Array Oper) (lt:Bool) (o:Oper) (w:World) (v:Value) (a:Act):Prop:=Gives P o w v a∧(lt=true→YieldsIf P ops (fun _=>True) o v a)
def Dq (P:Program) (ops:Array Oper) (lt:Nat→Bool) (w:World) (R:Act→Prop):List Nat→Act→Prop
 |[],a=>R a
 |i::rest,a=>∃o v,ops[i]?=some o∧GivesL P ops (lt i) o w v a∧Dq P ops lt w R rest (a.put o.dst v)
def dH (ops:Array Oper) (i:Nat):Bool:=match ops[i]? with
 |some o=>o.guard.isNone
 |none=>false
theorem nX {o:Oper} (h:o.guard.isNone=true) (y:Nat→Option Bool):Region.wanted o y=true:=by
 cases hg:o.guard with
 |none=>simp[Region.wanted,hg]
 |some g=>rw[hg] at h;cases h
theorem mX {S:World→Prop} {o:Oper} {v:Value} {a:Act} {w:World} (hg:o.guard.isNone=true) (hS:∀W,Ext w W→S W) (h:YieldsIf P ops S o v a):Gives P o w v a:=by
 intro W hW;rcases h with ⟨_,h⟩|⟨h,_⟩
 · rw[h W (hS W hW)];exact⟨rfl,Ext.refl W⟩
 rw[nX hg] at h;cases h
theorem jS {lt:Nat→Bool} {w:World} {R:Act→Prop} {N:Nat}:∀(bV:List (Nat×Nat)) (a:Act),(bV.all fun p=>dH ops p.1&&(!(lt p.1)||p.2==0))=true→
 aI P ops (fun a _=>R a) (Kr P ops) N bV a w→Dq P ops lt w R (bV.map (·.1)) a
 |[],_,_,h=>h
 |(i,k)::rest,a,hg,h=>by
  simp only[List.all_cons,adx] at hg;obtain⟨⟨kq,mw⟩,lV⟩:=hg;simp only[aI] at h
  by_cases iR:k=0
  · rw[if_pos iR] at h
    split at h
    · exact h.elim
    rename_i o ho;obtain⟨v,hy,h2⟩:=h;have oS:=kq;simp only[dH,ho] at oS;exact⟨o,v,ho,⟨mX oS (fun _ _=>trivial) hy,fun _=>hy⟩,jS rest _ lV h2⟩
  rw[if_neg iR] at h
  by_cases ko:k=1
  · rw[if_pos ko] at h
    split at h
    · exact h.elim
    rename_i o ho;obtain⟨v,hy,h2⟩:=h;have oS:=kq;simp only[dH,ho] at oS;exact⟨o,v,ho,⟨mX oS (fun _ h=>h) hy,fun hl=>(by rw[hl] at mw;simp[ko] at mw)⟩,jS rest _ lV h2⟩
  rw[if_neg ko] at h;simp only[Kr] at h;split at h
  · exact h.elim
  rename_i o ho;obtain⟨v,hy,_,h2⟩:=h;exact⟨o,v,ho,⟨hy,fun hl=>(by rw[hl] at mw;simp[iR] at mw)⟩,jS rest _ lV h2⟩
def ja (ops:Array Oper) (i j:Nat):Bool:=match ops[i]?,ops[j]? with
 |some x,some y=>x.apart ops y
 |_,_=>false
theorem np {i j:Nat} (h:ja ops i j=true) {x y:Oper} (hx:ops[i]?=some x) (hy:ops[j]?=some y):x.apart ops y=true:=by
 simpa [ja,hx,hy] using h
theorem Gives.same {o:Oper} {w:World} {v:Value} {a a':Act} (h:Gives P o w v a) (e:execOp a'.eval o=execOp a.eval o):Gives P o w v a':=by
 unfold Gives at*;rw[e];exact h
theorem GivesL.same {lt:Bool} {o:Oper} {w:World} {v:Value} {a a':Act} (h:GivesL P ops lt o w v a) (e:execOp a'.eval o=execOp a.eval o) (hw:Region.wanted o (yielded ops a'.tmps)=Region.wanted o (yielded ops a.tmps)):GivesL P ops lt o w v a':=
 ⟨h.1.same e,fun hl=>(h.2 hl).of_same e hw⟩
theorem wW (dm:Region.noSelect ops=true) {lt:Nat→Bool} {w:World} {R:Act→Prop} {j:Nat} {post:List Nat}:∀(pre:List Nat) (a:Act),(∀i∈pre,ja ops i j=true)→Dq P ops lt w R (pre++j::post) a→
 ∃o v,ops[j]?=some o∧GivesL P ops (lt j) o w v a∧Dq P ops lt w R (pre++post) (a.put o.dst v)
 |[],_,_,h=>h
 |i::pre,a,NI,h=>by
  obtain⟨oi,vi,hi,gi,h2⟩:=h;obtain⟨oj,v,hj,gj,h3⟩:=wW dm pre _ (fun k hk=>NI k (List.mem_cons_of_mem _ hk)) h2;obtain⟨a1,a2,a3⟩:=Oper.apart_spec (np (NI i (.head _)) hi hj)
  refine⟨oj,v,hj,gj.same (execOp_put (ops:=ops) oj (fun cs b=>Region.noSelect_spec dm j oj cs b hj) a oi.dst vi a1).symm (wanted_put oj a oi.dst vi a1).symm,oi,vi,hi,
   gi.same (execOp_put (ops:=ops) oi (fun cs b=>Region.noSelect_spec dm i oi cs b hi) a oj.dst v a3) (wanted_put oi a oj.dst v a3),?_⟩
  rw[←Act.put_comm a vi v a2];exact h3
def di (ops:Array Oper) (listed:Array Bool) (G:Nat→Nat):List Nat→Act→Act
 |[],a=>a
 |j::r,a=>di ops listed G r (if listed.getD j false then a.put ((ops[j]?).bind (·.dst)) (.pointer (some ⟨G j,0,none⟩)) else a)
theorem pc (o:Oper) (hs:∀cs b,o.op≠ .select cs b) {listed:Array Bool} {G:Nat→Nat}:∀(al:List Nat) (a:Act),(∀j∈al,∀d,((ops[j]?).bind (·.dst))=some d→d∉o.looksAt ops)→
 execOp (di ops listed G al a).eval o=execOp a.eval o
 |[],_,_=>rfl
 |j::r,a,h=>by
  rw[di,pc o hs r _ (fun k hk=>h k (List.mem_cons_of_mem _ hk))];split
  · exact execOp_put o hs a _ _ (h j (.head _))
  rfl
theorem pP (o:Oper) {listed:Array Bool} {G:Nat→Nat}:∀(al:List Nat) (a:Act),(∀j∈al,∀d,((ops[j]?).bind (·.dst))=some d→d∉o.looksAt ops)→
 Region.wanted o (yielded ops (di ops listed G al a).tmps)=Region.wanted o (yielded ops a.tmps)
 |[],_,_=>rfl
 |j::r,a,h=>by
  rw[di,pP o r _ (fun k hk=>h k (List.mem_cons_of_mem _ hk))];split
  · exact wanted_put o a _ _ (h j (.head _))
  rfl
theorem nY {listed:Array Bool} {G:Nat→Nat} {d:Option Tmp} {v:Value}:∀(al:List Nat) (a:Act),(∀j∈al,∀e,((ops[j]?).bind (·.dst))=some e→d≠some e)→
 (di ops listed G al a).put d v=di ops listed G al (a.put d v)
 |[],_,_=>rfl
 |j::r,a,h=>by
  rw[di,di,nY r _ (fun k hk=>h k (List.mem_cons_of_mem _ hk))];split
  · rw[Act.put_comm a _ v (h j (.head _))]
  rfl
theorem k5 {listed pQ:Array Bool} {G G':Nat→Nat}:∀(al:List Nat) (a:Act),(∀j∈al,pQ.getD j false=listed.getD j false∧G' j=G j)→di ops pQ G' al a=di ops listed G al a
 |[],_,_=>rfl
 |j::r,a,h=>by
  rw[di,di,(h j (.head _)).1,(h j (.head _)).2,k5 r _ (fun k hk=>h k (List.mem_cons_of_mem _ hk))]
theorem wX {listed:Array Bool} {G:Nat→Nat} {j g:Nat} (hj:listed.getD j false=false) (aV:j<listed.size):∀(al:List Nat) (a:Act),j∈al→al.Nodup→(al.Pairwise fun x y=>∀e,((ops[x]?).bind (·.dst))=some e→((ops[y]?).bind (·.dst))≠some e)→
 di ops (listed.setIfInBounds j true) (fun k=>if k=j then g else G k) al a=(di ops listed G al a).put ((ops[j]?).bind (·.dst)) (.pointer (some ⟨g,0,none⟩))
 |[],_,h,_,_=>by cases h
 |k::r,a,hm,hn,hd=>by
  have Ks:=List.nodup_cons.1 hn;have RP:=List.pairwise_cons.1 hd;have dg:(listed.setIfInBounds j true).getD j false=true:=by simp[aV]
  by_cases hk:k=j
  · subst hk
    rw[di,di,dg,hj,if_pos rfl];simp only[if_true,Bool.false_eq_true,if_false]
    rw[k5 (listed:=listed) (G:=G) r _ (fun x hx=>by
     have bN:x≠k:=fun e=>Ks.1 (e▸hx)
     exact⟨getD_set_ne false (Ne.symm bN),if_neg bN⟩)]
    exact(nY r a (fun x hx e he h2=>RP.1 x hx e h2 he)).symm
  have hmr:j∈r:=by
   rcases List.mem_cons.1 hm with h|h
   · exact absurd h.symm hk
   exact h
  rw[di,di,getD_set_ne false (Ne.symm hk),if_neg hk];exact wX hj aV r _ hmr Ks.2 RP.2
def RQ (md:Region.Mode) (M:List Nat) (o:Option Oper):Nat:=match o with
 |none=>0
 |some o=>(o.after.toList.filter fun e=>Region.binds md e).foldl (fun acc e=>acc ||| 2^e.on ||| M.getD e.on 0) 0
def Om (md:Region.Mode) (ops:Array Oper):Nat→List Nat
 |0=>[]
 |j+1=>Om md ops j++[RQ md (Om md ops j) ops[j]?]
theorem my (j:Nat):(Om md ops j).length=j:=by
 induction j with
 |zero=>rfl
 |succ j ih=>simp[Om,ih]
theorem Ah {n k:Nat} (h:k<n):(Om md ops n).getD k 0=RQ md (Om md ops k) ops[k]?:=by
 induction n with
 |zero=>omega
 |succ n ih=>
  rw[Om,List.getD_eq_getElem?_getD]
  by_cases hk:k=n
  · subst hk
    rw[adC (by rw[my];omega),my];simp
  rw[adG (by rw[my];omega),←List.getD_eq_getElem?_getD];exact ih (by omega)
theorem Kt (M:List Nat) (i:Nat):∀(es:List Edge) (acc:Nat),(es.foldl (fun acc e=>acc ||| 2^e.on ||| M.getD e.on 0) acc).testBit i=true→acc.testBit i=true∨∃e∈es,i=e.on∨(M.getD e.on 0).testBit i=true
 |[],_,h=>.inl h
 |e::es,acc,h=>by
  rw[List.foldl_cons] at h;rcases Kt M i es _ h with h|⟨x,hx,h⟩
  · rw[Nat.testBit_or,Nat.testBit_or,Bool.or_eq_true,Bool.or_eq_true] at h
    rcases h with (h|h)|h
    · exact .inl h
    · right
      refine⟨e,.head _,.inl ?_⟩;rw[Nat.testBit_two_pow] at h;exact(of_decide_eq_true h).symm
    exact .inr ⟨e,.head _,.inr h⟩
  exact .inr ⟨x,List.mem_cons_of_mem _ hx,h⟩
theorem wY {listed:Array Bool} (hc:Closed md ops listed):∀(n k:Nat),k<n→∀(o:Oper) (i:Nat),ops[k]?=some o→(∀e∈o.after,Region.binds md e=true→listed.getD e.on false=true)→(RQ md (Om md ops k) ops[k]?).testBit i=true→listed.getD i false=true
 |0,_,h,_,_,_,_,_=>by omega
 |n+1,k,hk,o,i,ho,dc,hb=>by
  rw[ho] at hb;rcases Kt _ i _ _ hb with h|⟨e,he,h⟩
  · simp at h
  rw[List.mem_filter] at he;have hl:=dc e (Array.mem_def.2 he.1) he.2;rcases h with rfl|h
  · exact hl
  have aV:e.on<k:=by
   rcases Nat.lt_or_ge e.on k with h1|h1
   · exact h1
   rw[List.getD_eq_getElem?_getD,List.getElem?_eq_none (by rw[my];exact h1)] at h;simp at h
  rw[Ah aV] at h;have hos:e.on<ops.size:=Nat.lt_trans aV (adg.1 ho).1;exact wY hc n e.on (by omega) ops[e.on] i (Array.getElem?_eq_getElem hos) (fun e2 he2 bS=>hc.2 e.on _ (Array.getElem?_eq_getElem hos) hl e2 he2 bS) h
def Vi (md:Region.Mode) (ops:Array Oper) (j i:Nat):Bool:=((Om md ops ops.size).getD j 0).testBit i
theorem Ai {listed:Array Bool} (hc:Closed md ops listed) {i j:Nat} (hj:j∈Region.ready md ops listed) (h:Vi md ops j i=true):listed.getD i false=true:=by
 obtain⟨_,o,ho,dc⟩:=mem_ready.1 hj;have aV:=(adg.1 ho).1;unfold Vi at h;rw[Ah aV] at h;exact wY hc (j+1) j (by omega) o i ho dc h
def tP (ops:Array Oper) (tail:List (Nat×Nat)) (i:Nat):Bool:=!(tail.all fun t=>Vi .any ops t.1 i)
def Fq (ops:Array Oper) (j i:Nat):Bool:=match ops[j]? with
 |some o=>o.after.any fun e=>Region.binds .any e&&e.on==i
 |none=>false
def Ak (ops:Array Oper) (c A:List Nat) (tail:List (Nat×Nat)):Bool:=
 Region.noSelect ops&&decide (c.length+A.length+tail.length=ops.size)&&((List.range ops.size).all fun i=>c.contains i||A.contains i||(tail.any fun t=>t.1==i))&&(c.all fun i=>dH ops i)&&(A.all fun i=>dH ops i)&&decide (c.Nodup)&&decide (A.Nodup)&&(A.all fun i=>!c.contains i)&&decide (c.Pairwise fun i j=>(ja ops i j||Vi .any ops j i)=true)&&((List.range ops.size).all fun i=>!c.contains i||(match ops[i]? with|some o=>o.after.all fun e=>!(Region.binds .any e)||(c.contains e.on&&decide (e.on<i))|none=>false))&&(A.all fun j=>(match ops[j]? with|some o=>o.after.all fun e=>!(Region.binds .any e)|none=>false)&&c.all fun i=>ja ops j i)&&decide (A.Pairwise fun i j=>ja ops i j=true)&&(tail.all fun t=>A.all fun i=>Vi .any ops t.1 i)&&decide (c.Pairwise fun i j=>(!(tP ops tail i)||(ja ops i j||Fq ops j i))=true)&&(c.all fun i=>!(tP ops tail i)||tail.all fun t=>ja ops i t.1||Fq ops t.1 i)&&decide (c.Pairwise fun i j=>i<j)&&(tail.all fun t=>!(c.contains t.1))&&(tail.all fun p=>decide (2≤p.2))&&jo .any ops 0 tail ((List.range ops.size).map fun i=>c.contains i||A.contains i).toArray
def rowsA (w W:World) (listed:Array Bool) (G:Nat→Nat) (al:List (Nat×TypeId×Array Value)):Prop:=
 (∀x∈al,listed.getD x.1 false=true→W.heap[G x.1]?=some (.cells x.2.2 x.2.1 (0,0))∧w.heap.size≤G x.1)∧
 ∀x∈al,∀y∈al,listed.getD x.1 false=true→listed.getD y.1 false=true→x.1≠y.1→G x.1≠G y.1
theorem rowsA.ext {w W W':World} {listed:Array Bool} {G:Nat→Nat} {al:List (Nat×TypeId×Array Value)} (h:rowsA w W listed G al) (hE:Ext W W'):rowsA w W' listed G al:=
 ⟨fun x hx hl=>⟨(hE.below.block _ (adg.1 (h.1 x hx hl).1).1).trans (h.1 x hx hl).1,(h.1 x hx hl).2⟩,h.2⟩
theorem rowsA.congr {w W:World} {listed pQ:Array Bool} {G:Nat→Nat} {al:List (Nat×TypeId×Array Value)} (h:rowsA w W listed G al) (hl:∀x∈al,pQ.getD x.1 false=listed.getD x.1 false):rowsA w W pQ G al:=
 ⟨fun x hx h1=>h.1 x hx (by rw[←hl x hx];exact h1),fun x hx y hy h1 h2=>h.2 x hx y hy (by rw[←hl x hx];exact h1) (by rw[←hl y hy];exact h2)⟩
def tQ (P:Program) (ops:Array Oper):List (Nat×TypeId×Array Value)→Prop
 |[]=>True
 |x::r=>(∃o,ops[x.1]?=some o∧∀(ρ:Operand→Value) (W:World),(execOp ρ o).run P W=.ok (.value (.pointer (some ⟨W.heap.size,0,none⟩))) (W.alloc (.cells x.2.2 x.2.1)))∧tQ P ops r
theorem Dr {al:List (Nat×TypeId×Array Value)} (h:tQ P ops al):∀x∈al,∃o,ops[x.1]?=some o∧∀(ρ:Operand→Value) (W:World),(execOp ρ o).run P W=.ok (.value (.pointer (some ⟨W.heap.size,0,none⟩))) (W.alloc (.cells x.2.2 x.2.1)):=by
 induction al with
 |nil=>intro x hx;cases hx
 |cons y r ih=>
  intro x hx;rcases List.mem_cons.1 hx with rfl|hx
  · exact h.1
  exact ih h.2 x hx
theorem se {Q:Act→World→Prop} {st:Nat→(Act→World→Prop)→Act→World→Prop} (L:cF P ops Q st) {N:Nat}:∀(bV:List (Nat×Nat)) (listed:Array Bool) (a:Act) (w:World),
 jo .any ops 0 bV listed=true→(bV.all fun p=>decide (2≤p.2))=true→aI P ops Q st 0 bV a w→eL .any ops Q st N (fun _=>True) bV.length listed a w
 |[],listed,a,w,hB,_,h=>⟨by simpa [jo] using hB,h⟩
 |(i,k)::rest,listed,a,w,hB,hA,h=>by
  simp only[List.all_cons,adx,adB] at hA;have iR:¬k=0:=by omega
  have ko:¬k=1:=by omega
  simp only[jo,iR,ko,if_false,adx] at hB;obtain⟨⟨hr,_⟩,du⟩:=hB;have hr:Region.ready .any ops listed=[i]:=by simpa using hr
  refine⟨fun h0=>(by rw[h0] at hr;cases hr),fun j hj=>?_⟩;rw[hr] at hj;obtain rfl:j=i:=by simpa using hj
  simp only[aI,iR,ko,if_false] at h;exact L.mono (fun a' w' h'=>⟨.inr trivial,se L rest _ a' w' du hA.2 h'.2⟩) h
theorem Ds {w:World} {Q:Exit→Act→World→Prop} {c:List Nat} {al:List (Nat×TypeId×Array Value)} {tail:List (Nat×Nat)} (hB:Ak ops c (al.map (·.1)) tail=true) (Oo:tQ P ops al)
 (hQ:∀c a d v w,Q (.panic c) (Act.put a d v) w→Q (.panic c) a w):
 ∀(n:Nat) (rem ra:List Nat) (listed:Array Bool) (G:Nat→Nat) (b:Act) (W:World),n=rem.length+ra.length→listed.size=ops.size→Closed .any ops listed→
  rem.Sublist c→ra.Nodup→(∀k,k∈ra↔k∈al.map (·.1)∧listed.getD k false=false)→(∀k,k∈c→(k∈rem↔listed.getD k false=false))→(∀t∈tail,listed.getD t.1 false=false)→
  Ext w W→rowsA w W listed G al→
  Dq P ops (tP ops tail) w (fun b=>∀G W L,Ext w W→(∀x∈al,L.getD x.1 false=true)→rowsA w W L G al→aI P ops (Q .normal) (fun i K a w=>wpOp P ops Q i K a w) 0 tail (di ops L G (al.map (·.1)) b) W) rem b→
  eL .any ops (Q .normal) (fun i K a w=>wpOp P ops Q i K a w) ops.size (fun _=>True) (n+tail.length) listed (di ops listed G (al.map (·.1)) b) W:=by
 simp only[Ak,adx,adB] at hB;obtain⟨⟨⟨⟨⟨⟨⟨⟨⟨⟨⟨⟨⟨⟨⟨⟨⟨⟨dm,hlen⟩,dc⟩,Wo⟩,GF⟩,RA⟩,Wp⟩,Wq⟩,GG⟩,Dt⟩,hA⟩,Wr⟩,Ws⟩,Wt⟩,Du⟩,Ku⟩,zC⟩,pd⟩,Kv⟩:=hB
 have RR:∀i,i<ops.size→i∈c∨i∈al.map (·.1)∨∃t∈tail,t.1=i:=fun i hi=>by
  have:=List.all_eq_true.1 dc i (List.mem_range.2 hi);simp only[Bool.or_eq_true,List.contains_iff_mem,List.any_eq_true,beq_iff_eq] at this;rcases this with (h|h)|h
  · exact .inl h
  · exact .inr (.inl h)
  exact .inr (.inr h)
 have hAc:∀j∈al.map (·.1),∀i∈c,ja ops j i=true:=fun j hj i hi=>by
  have:=List.all_eq_true.1 hA j hj;rw[adx] at this;exact List.all_eq_true.1 this.2 i hi
 have RS:∀j∈al.map (·.1),∀o,ops[j]?=some o→∀e∈o.after,Region.binds .any e=true→False:=fun j hj o ho e he hb=>by
  have:=List.all_eq_true.1 hA j hj;rw[adx,ho] at this;have h2:=Array.all_eq_true_iff_forall_mem.1 this.1 e he;rw[hb] at h2
  cases h2
 have Kw:∀j∈al.map (·.1),j∉c:=fun j hj hc=>by
  have:=List.all_eq_true.1 Wq j hj;rw[Bool.not_eq_true',←Bool.not_eq_true,List.contains_iff_mem] at this;exact this hc
 have Kx:(al.map (·.1)).Pairwise fun x y=>∀e,((ops[x]?).bind (·.dst))=some e→((ops[y]?).bind (·.dst))≠some e:=Wr.imp fun {x y} h e hx=>by
  unfold ja at h;split at h
  · rename_i ox oy h1 h2
    rw[h1] at hx;rw[h2];exact(Oper.apart_spec h).2.1 e hx
  cases h
 intro n
 induction n with
 |zero=>
  intro rem ra listed G b W hn eD gb nq Wu vK sJ xa hE xb Ky;obtain rfl:rem=[]:=List.length_eq_zero_iff.1 (by omega);obtain rfl:ra=[]:=List.length_eq_zero_iff.1 (by omega)
  have hlA:∀x∈al,listed.getD x.1 false=true:=fun x hx=>by
   cases h:listed.getD x.1 false
   · exact absurd ((vK x.1).2 ⟨List.mem_map_of_mem hx,h⟩) (by simp)
   rfl
  have hlc:∀k∈c,listed.getD k false=true:=fun k hk=>by
   cases h:listed.getD k false
   · exact absurd ((sJ k hk).2 h) (by simp)
   rfl
  have hL:listed=((List.range ops.size).map fun i=>c.contains i||(al.map (·.1)).contains i).toArray:=by
   apply Array.ext
   · simp[eD]
   intro i h1 h2;have hi:i<ops.size:=by omega
   simp only[List.getElem_toArray,List.getElem_map,List.getElem_range];have hg:listed.getD i false=listed[i]:=by simp[h1]
   rw[←hg]
   by_cases hm:i∈c∨i∈al.map (·.1)
   · have e1:(c.contains i||(al.map (·.1)).contains i)=true:=by
      rw[Bool.or_eq_true,List.contains_iff_mem,List.contains_iff_mem];exact hm
     rw[e1];rcases hm with h|h
     · exact hlc i h
     obtain⟨x,hx,rfl⟩:=List.mem_map.1 h;exact hlA x hx
   have e1:(c.contains i||(al.map (·.1)).contains i)=false:=by
    rw[←Bool.not_eq_true,Bool.or_eq_true,List.contains_iff_mem,List.contains_iff_mem];exact hm
   rw[e1];rcases RR i hi with h|h|⟨t,ht,rfl⟩
   · exact absurd (.inl h) hm
   · exact absurd (.inr h) hm
   exact xa t ht
  have hp:=Ky G W listed hE hlA xb;rw[←hL] at Kv;rw[Nat.zero_add];exact se (aJ Q hQ) tail listed _ W Kv pd hp
 |succ n ih=>
  intro rem ra listed G b W hn eD gb nq Wu vK sJ xa hE xb Ky;rw[show n+1+tail.length=n+tail.length+1 by omega]
  by_cases Qm:ra=[]∧∀i∈rem,tP ops tail i=true
  ·
   obtain⟨rfl,Kz⟩:=Qm
   cases rem with
   |nil=>simp at hn
   |cons i r=>
    obtain⟨o,v,ho,hg,h2⟩:=Ky;have JT:=nq.subset (List.mem_cons_self);have Oq:i<ops.size:=(adg.1 ho).1;have tg:listed.getD i false=false:=(sJ i JT).1 (.head _);have RT:i∉al.map (·.1):=fun h=>Kw i h JT
    have ye:∀k∈al.map (·.1),i≠k:=fun k hk e=>by
     subst e;exact RT hk
    have Vj:∀k∈al.map (·.1),∀d,((ops[k]?).bind (·.dst))=some d→d∉o.looksAt ops∧o.dst≠some d:=fun k hk d hd=>by
     have h1:=hAc k hk i JT;unfold ja at h1;rw[ho] at h1;split at h1
     · rename_i x y hx hy
       cases hy
       rw[hx] at hd;exact⟨(Oper.apart_spec h1).1 d hd,(Oper.apart_spec h1).2.1 d hd⟩
     cases h1
    have hnr:i∉r:=fun h=>(List.nodup_cons.1 (RA.sublist nq)).1 h
    have KA:i∈Region.ready .any ops listed:=by
     refine mem_ready.2 ⟨by rw[←tg];simp[eD,Oq],o,ho,fun e he hb=>?_⟩;have hf:=List.all_eq_true.1 Dt i (List.mem_range.2 Oq);have Qn:c.contains i=true:=List.contains_iff_mem.2 JT;rw[Qn,ho] at hf;simp only[Bool.not_true,Bool.false_or] at hf;have h1:=Array.all_eq_true_iff_forall_mem.1 hf e he;rw[hb] at h1;simp only[Bool.not_true,Bool.false_or,adx,List.contains_iff_mem,adB] at h1
     cases h:listed.getD e.on false
     · have hm:=(sJ e.on h1.1).2 h
       rcases List.mem_cons.1 hm with h3|h3
       · omega
       exfalso;have h5:=(List.pairwise_cons.1 (GG.sublist nq)).1 e.on h3;rw[Bool.or_eq_true] at h5;rcases h5 with h5|h5
       · have hoe:∃oe,ops[e.on]?=some oe:=⟨_,Array.getElem?_eq_getElem (show e.on<ops.size by omega)⟩
         have aat:=(List.pairwise_cons.1 (Ku.sublist nq)).1 e.on h3;omega
       have aat:=(List.pairwise_cons.1 (Ku.sublist nq)).1 e.on h3;omega
     rfl
    have hy:YieldsIf P ops (fun _=>True) o v (di ops listed G (al.map (·.1)) b):=(hg.2 (Kz i (.head _))).of_same (pc o (fun cs bb=>Region.noSelect_spec dm i o cs bb ho) _ _ (fun k hk d hd=>(Vj k hk d hd).1)) (pP o _ _ (fun k hk d hd=>(Vj k hk d hd).1));refine cV (aJ Q hQ) (S:=fun _=>True) (S1:=fun _=>True) ho (Region.noSelect_spec dm) Oq (fun _ _ _ _ _=>trivial) (n+tail.length) listed _ W gb (fun j oj hj JQ Ot CU=>?_) KA hy (.inr trivial) ?_
    · have Ou:=(adg.1 hj).1
      have hjf:listed.getD j false=false:=ee Ot
      have Qo:Fq ops j i=false:=by
       rw[←Bool.not_eq_true];intro h;unfold Fq at h;rw[hj] at h;obtain⟨e,he,h1⟩:=Array.any_eq_true'.1 h;simp only[adx,beq_iff_eq] at h1;exact CU e he h1.1 h1.2
      have Qp:=Kz i (.head _);rcases RR j Ou with NG|KB|⟨t,ht,rfl⟩
      · have hjr:=(sJ j NG).2 hjf
        rcases List.mem_cons.1 hjr with h|h
        · exact absurd h JQ
        have h1:=(List.pairwise_cons.1 (Wt.sublist nq)).1 j h;rw[Qp,Qo] at h1;simp only[Bool.not_true,Bool.false_or,Bool.or_false] at h1;exact np h1 ho hj
      · have:=(vK j).2 ⟨KB,hjf⟩
        cases this
      have h1:=List.all_eq_true.1 Du i JT;rw[Qp] at h1;simp only[Bool.not_true,Bool.false_or] at h1;have h3:=List.all_eq_true.1 h1 t ht;rw[Qo] at h3;simp only[Bool.or_false] at h3;exact np h3 ho hj
    have e1:(di ops listed G (al.map (·.1)) b).put o.dst v=di ops (listed.setIfInBounds i true) G (al.map (·.1)) (b.put o.dst v):=by
     rw[nY _ _ (fun k hk e he=>(Vj k hk e he).2)];exact(k5 _ _ (fun k hk=>⟨getD_set_ne false (ye k hk),rfl⟩)).symm
    rw[e1];refine ih r [] _ G _ W (by simp only[adz,List.length_nil] at hn⊢;omega) (by simpa using eD) (gb.set KA) ((List.sublist_cons_self i r).trans nq) Wu ?_ ?_ ?_ hE (xb.congr fun x hx=>getD_set_ne false (ye x.1 (List.mem_map_of_mem hx))) h2
    · intro k
      rw[vK k];constructor
      · rintro⟨h1,h3⟩
        exact⟨h1,by rw[getD_set_ne false (ye k h1)];exact h3⟩
      rintro⟨h1,h3⟩;exact⟨h1,by rw[getD_set_ne false (ye k h1)] at h3;exact h3⟩
    · intro k hk
      by_cases RO:k=i
      · subst RO
        rw[show (listed.setIfInBounds k true).getD k false=true by simp[eD,Oq]];exact⟨fun h=>absurd h hnr,fun h=>by cases h⟩
      rw[getD_set_ne false (Ne.symm RO),←sJ k hk];simp only[List.mem_cons,RO,false_or]
    intro t ht
    have hti:t.1≠i:=fun e=>by
     have h1:=List.all_eq_true.1 Du i JT;rw[Kz i (.head _)] at h1;simp only[Bool.not_true,Bool.false_or] at h1;have h3:=List.all_eq_true.1 zC t ht;rw[e,Bool.not_eq_true',←Bool.not_eq_true,List.contains_iff_mem] at h3;exact h3 JT
    rw[getD_set_ne false (Ne.symm hti)];exact xa t ht
  have Wv:∃i,((i∈c∧tP ops tail i=false)∨i∈al.map (·.1))∧listed.getD i false=false:=by
   cases ra with
   |cons j r=>exact⟨j,.inr ((vK j).1 (.head _)).1,((vK j).1 (.head _)).2⟩
   |nil=>
    by_cases hex:∃i∈rem,tP ops tail i=false
    · obtain⟨i,hi,hl⟩:=hex
      exact⟨i,.inl ⟨nq.subset hi,hl⟩,(sJ i (nq.subset hi)).1 hi⟩
    exfalso;refine Qm ⟨rfl,fun i hi=>?_⟩
    cases h:tP ops tail i
    · exact absurd ⟨i,hi,h⟩ hex
    rfl
  have aV:∀i,i∈c∨i∈al.map (·.1)→i<ops.size:=fun i hi=>by
   have hg:dH ops i=true:=by
    rcases hi with h|h
    · exact List.all_eq_true.1 Wo i h
    exact List.all_eq_true.1 GF i h
   unfold dH at hg;split at hg
   · rename_i o ho;exact(adg.1 ho).1
   cases hg
  refine⟨fun h0=>?_,fun j hj=>?_⟩
  ·
   exfalso
   have Dv:∃i,i∈Region.ready .any ops listed:=by
    cases ra with
    |cons j r=>
     have KB:=((vK j).1 (.head _));have Ou:=aV j (.inr KB.1);refine⟨j,mem_ready.2 ⟨by rw[←KB.2];simp[eD,Ou],ops[j],Array.getElem?_eq_getElem Ou,fun e he hb=>(RS j KB.1 _ (Array.getElem?_eq_getElem Ou) e he hb).elim⟩⟩
    |nil=>
     have:∀m i,i<m→i∈c→listed.getD i false=false→∃i,i∈Region.ready .any ops listed:=by
      intro m
      induction m with
      |zero=>intro i hi;omega
      |succ m ihm=>
       intro i him JT tg;have Oq:=aV i (.inl JT);have hf:=List.all_eq_true.1 Dt i (List.mem_range.2 Oq);have Qn:c.contains i=true:=List.contains_iff_mem.2 JT;rw[Qn,Array.getElem?_eq_getElem Oq] at hf;simp only[Bool.not_true,Bool.false_or] at hf;have hf:=Array.all_eq_true_iff_forall_mem.1 hf
       by_cases hex:∃e∈(ops[i]).after,Region.binds .any e=true∧listed.getD e.on false=false
       · obtain⟨e,he,hb,hl⟩:=hex
         have h1:=hf e he;rw[hb] at h1;simp only[Bool.not_true,Bool.false_or,adx,List.contains_iff_mem,adB] at h1;exact ihm e.on (by omega) h1.1 hl
       refine⟨i,mem_ready.2 ⟨by rw[←tg];simp[eD,Oq],ops[i],Array.getElem?_eq_getElem Oq,fun e he hb=>?_⟩⟩
       cases h:listed.getD e.on false
       · exact absurd ⟨e,he,hb,h⟩ hex
       rfl
     cases rem with
     |nil=>simp at hn
     |cons i r=>exact this (i+1) i (by omega) (nq.subset (.head _)) ((sJ i (nq.subset (.head _))).1 (.head _))
   obtain⟨i,hi⟩:=Dv;rw[h0] at hi
   cases hi
  · obtain⟨Oe,oj0,aau,_⟩:=mem_ready.1 hj
    have Ou:=(adg.1 aau).1;have Ot:listed.getD j false=false:=ee Oe;have Ww:j<listed.size:=by omega
    have RU:=gb.set hj
    have Wx:∀t∈tail,t.1≠j:=fun t ht e=>by
     obtain⟨i,hi,tg⟩:=Wv
     have hup:Vi .any ops t.1 i=true:=by
      rcases hi with ⟨_,h⟩|h
      · unfold tP at h
        rw[Bool.not_eq_false'] at h;exact List.all_eq_true.1 h t ht
      exact List.all_eq_true.1 (List.all_eq_true.1 Ws t ht) i h
     rw[e] at hup;rw[Ai gb hj hup] at tg
     cases tg
    have Wy:∀t∈tail,(listed.setIfInBounds j true).getD t.1 false=false:=fun t ht=>by
     rw[getD_set_ne false (Ne.symm (Wx t ht))];exact xa t ht
    have dg:(listed.setIfInBounds j true).getD j false=true:=by simp[Ww]
    rcases RR j Ou with NG|KB|⟨t,ht,e⟩
    ·
     have hjr:=(sJ j NG).2 Ot;obtain⟨pre,post,rfl⟩:=List.append_of_mem hjr
     have NI:∀i∈pre,ja ops i j=true:=fun i hi=>by
      have hp:=GG.sublist nq;have h1:=(List.pairwise_append.1 hp).2.2 i hi j (.head _);rw[Bool.or_eq_true] at h1;rcases h1 with h|h
      · exact h
      have JT:=nq.subset (List.mem_append_left _ hi);have:=Ai gb hj h;rw[(sJ i JT).1 (List.mem_append_left _ hi)] at this
      cases this
     obtain⟨o,v,ho,hg,h2⟩:=wW dm pre b NI Ky;have RT:j∉al.map (·.1):=fun h=>Kw j h NG
     have ye:∀k∈al.map (·.1),j≠k:=fun k hk e=>by
      subst e;exact RT hk
     have vI:(pre++j::post).Nodup:=RA.sublist nq
     have aav:j∉pre++post:=fun h=>by
      have h1:=List.nodup_append.1 vI;have h3:=List.nodup_cons.1 h1.2.1;rcases List.mem_append.1 h with h|h
      · exact h1.2.2 j h j (.head _) rfl
      exact h3.1 h
     have Vj:∀k∈al.map (·.1),∀d,((ops[k]?).bind (·.dst))=some d→d∉o.looksAt ops∧o.dst≠some d:=fun k hk d hd=>by
      have h1:=hAc k hk j NG;unfold ja at h1;rw[ho] at h1;split at h1
      · rename_i x y hx hy
        cases hy
        rw[hx] at hd;exact⟨(Oper.apart_spec h1).1 d hd,(Oper.apart_spec h1).2.1 d hd⟩
      cases h1
     have lQ:dH ops j=true:=List.all_eq_true.1 Wo j NG;unfold dH at lQ;rw[ho] at lQ
     have tR:∀W',Ext W W'→eL .any ops (Q .normal) (fun i K a w=>wpOp P ops Q i K a w) ops.size (fun _=>True) (n+tail.length) (listed.setIfInBounds j true) ((di ops listed G (al.map (·.1)) b).put o.dst v) W':=fun W' RV=>by
      have e1:(di ops listed G (al.map (·.1)) b).put o.dst v=di ops (listed.setIfInBounds j true) G (al.map (·.1)) (b.put o.dst v):=by
       rw[nY _ _ (fun k hk e he=>(Vj k hk e he).2)];exact(k5 _ _ (fun k hk=>⟨getD_set_ne false (ye k hk),rfl⟩)).symm
      rw[e1];refine ih (pre++post) ra _ G _ W' (by simp only[adv,adz] at hn⊢;omega) (by simpa using eD) RU ?_ Wu ?_ ?_ Wy (hE.trans RV) ((xb.ext RV).congr fun x hx=>getD_set_ne false (ye x.1 (List.mem_map_of_mem hx))) h2
      · exact(List.Sublist.append_left (List.sublist_cons_self j post) pre).trans nq
      · intro k
        rw[vK k];constructor
        · rintro⟨h1,h3⟩
          exact⟨h1,by rw[getD_set_ne false (ye k h1)];exact h3⟩
        rintro⟨h1,h3⟩;exact⟨h1,by rw[getD_set_ne false (ye k h1)] at h3;exact h3⟩
      intro k hk
      by_cases NJ:k=j
      · subst NJ
        rw[dg];exact⟨fun h=>absurd h aav,fun h=>by cases h⟩
      rw[getD_set_ne false (Ne.symm NJ),←sJ k hk];simp only[List.mem_append,List.mem_cons,NJ,false_or]
     show wpOp P ops Q j _ _ W;unfold wpOp;simp only[ho,nX lQ,if_true];left;have hL:=hg.1 W hE;unfold Oper.wp;rw[pc o (fun cs bb=>Region.noSelect_spec dm j o cs bb ho) _ _ (fun k hk d hd=>(Vj k hk d hd).1)];generalize (execOp b.eval o).run P W=r at hL
     cases r with
     |halt x w'=>exact hL.elim
     |ok m w'=>
      cases m<;>simp only[Dp] at hL
      case value u=>
       obtain⟨rfl,tS⟩:=hL;exact⟨.inr trivial,tR w' tS⟩
      case enter f args=>
       refine Calls.mono hL fun e Vh he=>?_
       obtain⟨rfl,tS⟩:=he;exact⟨.inr trivial,tR Vh tS⟩
    ·
     obtain⟨x,hx,rfl⟩:=List.mem_map.1 KB;obtain⟨o,ho,x8⟩:=Dr Oo x hx;have lQ:dH ops x.1=true:=List.all_eq_true.1 GF x.1 KB;unfold dH at lQ;rw[ho] at lQ;have aaw:=Kw x.1 KB;have Wz:=(vK x.1).2 ⟨KB,Ot⟩;show wpOp P ops Q x.1 _ _ W;unfold wpOp;simp only[ho,nX lQ,if_true];left;unfold Oper.wp;rw[x8];refine⟨.inr trivial,?_⟩;have e1:=wX (ops:=ops) (G:=G) (g:=W.heap.size) Ot Ww (al.map (·.1)) b KB Wp Kx;rw[ho] at e1;have e2:((some o).bind fun x=>x.dst)=o.dst:=rfl;rw[e2] at e1;rw[←e1];refine ih rem (ra.erase x.1) _ _ _ _ (by rw[List.length_erase_of_mem Wz];have:=List.length_pos_of_mem Wz;omega) (by simpa using eD) RU nq (Wu.sublist List.erase_sublist) ?_ ?_ Wy (hE.trans (bq W _)) ?_ Ky
     · intro k
       rw[Wu.mem_erase_iff,vK k];constructor
       · rintro⟨h1,h2,h3⟩
         exact⟨h2,by rw[getD_set_ne false (Ne.symm h1)];exact h3⟩
       rintro⟨h2,h3⟩;have bN:k≠x.1:=fun e=>by rw[e,dg] at h3;cases h3
       exact⟨bN,h2,by rw[getD_set_ne false (Ne.symm bN)] at h3;exact h3⟩
     · intro k hk
       have bN:k≠x.1:=fun e=>aaw (e▸hk)
       rw[getD_set_ne false (Ne.symm bN)];exact sJ k hk
     have hold:∀y∈al,y.1≠x.1→(listed.setIfInBounds x.1 true).getD y.1 false=true→W.heap[G y.1]?=some (.cells y.2.2 y.2.1 (0,0))∧w.heap.size≤G y.1:=fun y hy bN hl=>by
      rw[getD_set_ne false (Ne.symm bN)] at hl;exact xb.1 y hy hl
     have WA:∀y∈al,y.1=x.1→y=x:=fun y hy he=>by
      have RW:al.Pairwise (fun a b=>a.1≠b.1):=List.pairwise_map.1 Wp
      by_cases JU:y=x
      · exact JU
      exfalso;rcases List.mem_iff_getElem.1 hy with ⟨p,hp,e3⟩;rcases List.mem_iff_getElem.1 hx with ⟨q,hq,e4⟩;have WB:=List.pairwise_iff_getElem.1 RW;rcases Nat.lt_trichotomy p q with h|h|h
      · exact WB p q hp hq h (by rw[e3,e4];exact he)
      · subst h;exact JU (by rw[←e3,←e4])
      exact WB q p hq hp h (by rw[e3,e4];exact he.symm)
     refine⟨fun y hy hl=>?_,fun y hy z hz GH Vk bN=>?_⟩
     · by_cases JU:y.1=x.1
       · obtain rfl:=WA y hy JU
         simp only[if_true];exact⟨adk W _,hE.below.size⟩
       simp only[if_neg JU];have h1:=hold y hy JU hl;exact⟨(Below.heap_alloc W _ _ (adg.1 h1.1).1).trans h1.1,h1.2⟩
     by_cases JU:y.1=x.1
     · have KC:z.1≠x.1:=fun e=>bN (by rw[JU,e])
       simp only[if_pos JU,if_neg KC];have:=(adg.1 (hold z hz KC Vk).1).1;omega
     simp only[if_neg JU]
     by_cases KC:z.1=x.1
     · simp only[if_pos KC]
       have:=(adg.1 (hold y hy JU GH).1).1;omega
     simp only[if_neg KC];rw[getD_set_ne false (Ne.symm JU)] at GH;rw[getD_set_ne false (Ne.symm KC)] at Vk;exact xb.2 y hy z hz GH Vk bN
    · exact absurd e (Wx t ht)
end
end Go.Proofs.YtnlkdheaohocnaaGreatDoor
namespace Go.Proofs.YtnlkdheaohocnaaGreatDoor
open Go Go.RowKit
section
variable {P:Program} {ops:Array Oper}
theorem xc {lt:Nat→Bool} {w:World} {R R':Act→Prop} (h:∀a,R a→R' a):∀(l:List Nat) (a:Act),Dq P ops lt w R l a→Dq P ops lt w R' l a
 |[],a,hs=>h a hs
 |_::l,_,⟨o,v,h1,h2,h3⟩=>⟨o,v,h1,h2,xc h l _ h3⟩
def vL (ops:Array Oper) (w:World) (T:Act→World→Prop):List (Nat×TypeId×Array Value)→List (Nat×TypeId×Array Value)→Act→Prop
 |[],F,a=>∀W,Ext w W→(∀f∈F,W.heap[f.1]?=some (.cells f.2.2 f.2.1 (0,0))∧w.heap.size≤f.1)→(F.Pairwise fun a b=>a.1≠b.1)→T a W
 |x::r,F,a=>∀g,vL ops w T r ((g,x.2)::F) (a.put ((ops[x.1]?).bind (·.dst)) (.pointer (some ⟨g,0,none⟩)))
theorem An {w W:World} {T:Act→World→Prop} {L:Array Bool} {G:Nat→Nat} (hE:Ext w W):∀(al F:List (Nat×TypeId×Array Value)) (a:Act),vL ops w T al F a→(∀x∈al,L.getD x.1 false=true)→
 (∀x∈al,W.heap[G x.1]?=some (.cells x.2.2 x.2.1 (0,0))∧w.heap.size≤G x.1)→(al.Pairwise fun x y=>G x.1≠G y.1)→
 (∀f∈F,W.heap[f.1]?=some (.cells f.2.2 f.2.1 (0,0))∧w.heap.size≤f.1)→(F.Pairwise fun a b=>a.1≠b.1)→(∀x∈al,∀f∈F,G x.1≠f.1)→T (di ops L G (al.map (·.1)) a) W
 |[],F,a,h,_,_,_,hF,hP,_=>h W hE hF hP
 |x::r,F,a,h,hL,hA,hd,hF,hP,hx=>by
  have RP:=List.pairwise_cons.1 hd;rw[List.map_cons,di,if_pos (hL x (.head _))];refine An hE r ((G x.1,x.2)::F) _ (h (G x.1)) (fun y hy=>hL y (List.mem_cons_of_mem _ hy)) (fun y hy=>hA y (List.mem_cons_of_mem _ hy)) RP.2 ?_ ?_ ?_
  · intro f hf
    rcases List.mem_cons.1 hf with rfl|hf
    · exact hA x (.head _)
    exact hF f hf
  · exact List.pairwise_cons.2 ⟨fun f hf=>hx x (.head _) f hf,hP⟩
  intro y hy f hf;rcases List.mem_cons.1 hf with rfl|hf
  · exact fun e=>RP.1 y hy e.symm
  exact hx y (List.mem_cons_of_mem _ hy) f hf
theorem KD {w:World} {Q:Exit→Act→World→Prop} {a:Act} (pl:List (Nat×Nat)) (al:List (Nat×TypeId×Array Value)) (tail:List (Nat×Nat)) (hB:(Ak ops (pl.map (·.1)) (al.map (·.1)) tail&&pl.all fun p=>!(tP ops tail p.1)||p.2==0)=true) (Oo:tQ P ops al)
 (hQ:∀c a d v w,Q (.panic c) (Act.put a d v) w→Q (.panic c) a w)
 (h:aI P ops (fun b _=>vL ops w (fun b W=>aI P ops (Q .normal) (fun i K a w=>wpOp P ops Q i K a w) 0 tail b W) al [] b) (Kr P ops) 0 pl a w):wpAny P .any ops Q ops.size (Array.replicate ops.size false) a w:=by
 rw[adx] at hB;obtain⟨Of,Qq⟩:=hB;have hB:=Of;simp only[Ak,adx,adB] at hB;obtain⟨⟨⟨⟨⟨⟨⟨⟨⟨⟨⟨⟨⟨⟨⟨⟨⟨⟨dm,hlen⟩,dc⟩,Wo⟩,GF⟩,RA⟩,Wp⟩,Wq⟩,GG⟩,Dt⟩,hA⟩,Wr⟩,Ws⟩,Wt⟩,Du⟩,Ku⟩,zC⟩,pd⟩,Kv⟩:=hB
 have hf:∀k,(Array.replicate ops.size false).getD k false=false:=fun k=>by
  rcases Nat.lt_or_ge k ops.size with h|h
  · simp[h]
  simp[h]
 have mw:(pl.all fun p=>dH ops p.1&&(!(tP ops tail p.1)||p.2==0))=true:=by
  rw[List.all_eq_true] at Wo Qq⊢;intro p hp;rw[Wo p.1 (List.mem_map_of_mem hp),Qq p hp];rfl
 have hs:=jS (R:=fun b=>vL ops w (fun b W=>aI P ops (Q .normal) (fun i K a w=>wpOp P ops Q i K a w) 0 tail b W) al [] b) pl a mw h;have RW:al.Pairwise (fun a b=>a.1≠b.1):=List.pairwise_map.1 Wp
 have jt:=xc (R':=fun b=>∀G W L,Ext w W→(∀x∈al,L.getD x.1 false=true)→rowsA w W L G al→aI P ops (Q .normal) (fun i K a w=>wpOp P ops Q i K a w) 0 tail (di ops L G (al.map (·.1)) b) W) (fun b hb G W L hE hL hr=>by
  refine An hE al [] b hb hL (fun x hx=>hr.1 x hx (hL x hx)) ?_ (by simp) (by simp) (by simp);exact RW.imp_of_mem fun {x y} hx hy bN=>hr.2 x hx y hy (hL x hx) (hL y hy) bN) _ _ hs
 have h0:∀(l:List Nat) (b:Act),di ops (Array.replicate ops.size false) (fun _=>0) l b=b:=by
  intro l
  induction l with
  |nil=>intro b;rfl
  |cons j r ih=>
   intro b;rw[di,hf j];exact ih b
 have:=Ds Of Oo hQ _ (pl.map (·.1)) (al.map (·.1)) (Array.replicate ops.size false) (fun _=>0) a w rfl (by simp) ⟨by simp,fun j oj hj hl=>by rw[hf j] at hl;cases hl⟩ (List.Sublist.refl _) Wp (fun k=>by rw[hf k];simp) (fun k hk=>by rw[hf k];simp[hk]) (fun t _=>hf t.1) (Ext.refl w)
  ⟨fun x _ hl=>(by rw[hf x.1] at hl;cases hl),fun x _ y _ hl _ _=>(by rw[hf x.1] at hl;cases hl)⟩ jt
 rw[h0,hlen] at this;exact ie _ _ _ _ this
theorem aQ {id:Nat} {Q:Exit→Act→World→Prop} {a:Act} {w:World} {l:List Oper} (pl:List (Nat×Nat)) (al:List (Nat×TypeId×Array Value)) (tail:List (Nat×Nat)) (hm:P.follows .mixedOrders=true) (hB:(Ak l.toArray (pl.map (·.1)) (al.map (·.1)) tail&&pl.all fun p=>!(tP l.toArray tail p.1)||p.2==0)=true)
 (hQ:∀c a d v w,Q (.panic c) (Act.put a d v) w→Q (.panic c) a w) (Oo:tQ P l.toArray al)
 (h:aI P l.toArray (fun b _=>vL l.toArray w.drew (fun b W=>aI P l.toArray (Q .normal) (fun i K a w=>wpOp P l.toArray Q i K a w) 0 tail b W) al [] b) (Kr P l.toArray) 0 pl a w.drew):(Code.region id l.toArray true).wp P Q a w:=
 wp_region_any hm (KD pl al tail hB Oo hQ h)
theorem Ao {N i:Nat} {rest:List (Nat×Nat)} {o:Oper} {a:Act} {w:World} {R:Act→World→Prop} (ho:ops[i]?=some o) (v:Value) (h1:∀W,Ext w W→Dp P W v ((execOp a.eval o).run P W))
 (h2:aI P ops R (Kr P ops) N rest (a.put o.dst v) w):aI P ops R (Kr P ops) N ((i,2)::rest) a w:=by
 simp only[aI,show¬(2=0) by decide,show¬(2=1) by decide,if_false,Kr,ho];exact⟨v,h1,.inr (Ext.refl w),h2⟩
theorem KE {w:World} {T:Act→World→Prop} {F:List (Nat×TypeId×Array Value)} {a:Act} (h:∀W,Ext w W→(∀f∈F,W.heap[f.1]?=some (.cells f.2.2 f.2.1 (0,0))∧w.heap.size≤f.1)→(F.Pairwise fun a b=>a.1≠b.1)→T a W):vL ops w T [] F a:=h
theorem GI {w:World} {T:Act→World→Prop} {F r:List (Nat×TypeId×Array Value)} {x:Nat×TypeId×Array Value} {a:Act} {d:Option Tmp} (hd:(ops[x.1]?).bind (·.dst)=d) (h:∀g,vL ops w T r ((g,x.2)::F) (a.put d (.pointer (some ⟨g,0,none⟩)))):vL ops w T (x::r) F a:=by
 subst hd;exact h
theorem Ap {W W1:World} {f:FuncId} {args:Array Value} {v:Value} (hW:Ext W W1) (h:Calls P f args W1 fun e W'=>e=.returned v∧Below W1.heap.size W1 W'):Calls P f args W1 fun e W'=>e=.returned v∧Ext W W':=
 h.mono fun _ _ he=>⟨he.1,hW.trans (av he.2)⟩
end
structure Mem (w0 w:World) (L:List (Nat×TypeId×Array Value)):Prop where
 hb:Below w0.heap.size w0 w
 rows:∀r∈L,w.heap[r.1]?=some (.cells r.2.2 r.2.1 (0,0))∧w0.heap.size≤r.1
 ne:L.Pairwise fun a b=>a.1≠b.1
section
variable {w0 w w':World} {L:List (Nat×TypeId×Array Value)}
theorem Mem.start (w:World):Mem w w []:=⟨adl _ _,by simp,by simp⟩
theorem Mem.at_ (h:Mem w0 w L) (k:Nat) {g:Nat} {t:TypeId} {cs:Array Value} (e:L[k]?=some (g,t,cs)):w.heap[g]?=some (.cells cs t (0,0)):=(h.rows (g,t,cs) (List.mem_of_getElem? e)).1
theorem Mem.ext (h:Mem w0 w L) (hE:Ext w w'):Mem w0 w' L:=
 ⟨h.hb.trans (hE.below.mono h.hb.size),fun r hr=>⟨(hE.below.block _ (adg.1 (h.rows r hr).1).1).trans (h.rows r hr).1,(h.rows r hr).2⟩,h.ne⟩
theorem Mem.below (h:Mem w0 w L) (hb:Below w.heap.size w w'):Mem w0 w' L:=h.ext (av hb)
theorem Mem.drew (h:Mem w0 w L):Mem w0 w.drew L:=h.ext (av (adl _ _).drew)
theorem Mem.join (h:Mem w0 w L) {F:List (Nat×TypeId×Array Value)} (hE:Ext w w') (hF:∀f∈F,w'.heap[f.1]?=some (.cells f.2.2 f.2.1 (0,0))∧w.heap.size≤f.1) (hP:F.Pairwise fun a b=>a.1≠b.1):Mem w0 w' (F++L):=by
 have h2:=h.ext hE;refine⟨h2.hb,fun r hr=>?_,List.pairwise_append.2 ⟨hP,h.ne,fun f hf r hr=>?_⟩⟩
 · rcases List.mem_append.1 hr with hr|hr
   · exact⟨(hF r hr).1,Nat.le_trans h.hb.size (hF r hr).2⟩
   exact h2.rows r hr
 have h3:=(adg.1 (h.rows r hr).1).1;have h4:=(hF f hf).2;omega
theorem Mem.new (h:Mem w0 w L) (t:TypeId) (cs:Array Value):Mem w0 (w.alloc (.cells cs t)) ((w.heap.size,t,cs)::L):=by
 have:=h.join (F:=[(w.heap.size,t,cs)]) (bq w (.cells cs t)) (fun f hf=>by rw[List.mem_singleton] at hf;subst hf;exact⟨adk w _,adi _⟩) (by simp);exact this
theorem Mem.set (h:Mem w0 w L) (k:Nat) {g:Nat} {t:TypeId} {cs:Array Value} (e:L[k]?=some (g,t,cs)) (RX:Array Value):Mem w0 (w.setRow g RX) (L.set k (g,t,RX)):=by
 have hk:k<L.length:=(adE.1 e).1;have Dw:L[k]=(g,t,cs):=(adE.1 e).2;have hg:=h.rows _ (List.mem_of_getElem? e)
 have bN:∀j (hj:j<L.length),j≠k→L[j].1≠g:=fun j hj Fl=>by
  have hp:=List.pairwise_iff_getElem.1 h.ne;rcases Nat.lt_or_ge j k with h1|h1
  · have:=hp j k hj hk h1;rw[Dw] at this;exact this
  have:=hp k j hk hj (by omega);rw[Dw] at this;exact fun e=>this e.symm
 have dg:∀j (hj:j<L.length),(L.set k (g,t,RX))[j]?=some (if j=k then (g,t,RX) else L[j]):=fun j hj=>by
  rw[List.getElem?_set]
  by_cases Fl:k=j
  · subst Fl;simp[hk]
  rw[if_neg Fl,if_neg (Ne.symm Fl),adp hj]
 have WC:∀j (hj:j<(L.set k (g,t,RX)).length),(L.set k (g,t,RX))[j].1=(L[j]'(by simpa using hj)).1:=fun j hj=>by
  have h1:=dg j (by simpa using hj);rw[adp hj] at h1;injection h1 with h1;rw[h1];split
  · rename_i h;subst h;rw[Dw]
  rfl
 refine⟨au h.hb hg.2 _,fun r hr=>?_,?_⟩
 · obtain⟨j,hj⟩:=List.mem_iff_getElem?.1 hr
   have Ot:j<L.length:=by have:=(adE.1 hj).1;simpa using this
   rw[dg j Ot] at hj;injection hj with hj;subst hj;split
   · exact⟨adt _ _ _ _ _ _ hg.1,hg.2⟩
   rename_i Fl;have:=h.rows _ (List.getElem_mem Ot);exact⟨(setRow_other w g _ RX (bN j Ot Fl)).trans this.1,this.2⟩
 rw[List.pairwise_iff_getElem];intro i j hi hj Od;rw[WC i hi,WC j hj];exact List.pairwise_iff_getElem.1 h.ne i j _ _ Od
end
section
variable {P:Program} {ops:Array Oper}
theorem vM {i:Nat} {rest:List (Nat×Nat)} {o:Oper} {a:Act} {w0 w:World} {Q:Exit→Act→World→Prop} {L:List (Nat×TypeId×Array Value)} (hM:Mem w0 w L) (k:Nat) (ho:ops[i]?=some o) (lQ:o.guard=none) (ty:TypeId) (x y:Operand) (cK:o.op=.store ty x y) (Kx:o.dst=none) (g:Nat) (cs:Array Value) (hx:a.eval x=.pointer (some ⟨g,0,none⟩)) (hy:a.eval y=.agg cs)
 {t:TypeId} {kP:Array Value} (e:L[k]?=some (g,t,kP)) (hi:(P.info? ty).map (·.size)=some cs.size) (hold:kP.size=cs.size) (h1:cs.all (·.oneCell')=true)
 (h:∀W,Mem w0 W (L.set k (g,t,cs))→aI P ops (Q .normal) (fun i K a w=>wpOp P ops Q i K a w) 0 rest a W):
 aI P ops (Q .normal) (fun i K a w=>wpOp P ops Q i K a w) 0 ((i,3)::rest) a w:=by
 simp only[aI,show¬(3=0) by decide,show¬(3=1) by decide,if_false,wpOp,ho,Region.wanted,lQ,if_true];left;refine wp_store_row ty x y cK g cs hx hy t kP (hM.at_ k e) hi hold h1 ?_;rw[Kx];exact⟨.inl (adF _),h _ (hM.set k e cs)⟩
end
end Go.Proofs.YtnlkdheaohocnaaGreatDoor
