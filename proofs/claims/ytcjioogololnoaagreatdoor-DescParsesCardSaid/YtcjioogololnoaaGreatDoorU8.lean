/- Of any text: the program's descriptors and the reference's are read and written alike (DescParses). No condition. -/
import Derived.Test.YtcjioogololnoaaGreatDoorU1
import Derived.Test.YtcjioogololnoaaGreatDoorU4
import Derived.Test.YtcjioogololnoaaGreatDoorU7
import Derived.Test.YtcjioogololnoaaGreatDoorU6
set_option maxRecDepth 1000000
set_option maxHeartbeats 16000000
set_option linter.unusedVariables false
set_option linter.unusedSimpArgs false
namespace Go.Proofs.YtcjioogololnoaaGreatDoor
open Go Go.RowKit
section
variable {P:Program} {ops:Array Oper} {md:Region.Mode}
variable {Q:Act→World→Prop} {st:Nat→(Act→World→Prop)→Act→World→Prop} {N:Nat}
def NA (P:Program) (ops:Array Oper) (Q:Act→World→Prop) (st:Nat→(Act→World→Prop)→Act→World→Prop) (N:Nat) (jj:List (Nat×List (Nat×Nat))) (a:Act) (w:World):Prop:=
 ∀f∈jj,st f.1 (fun a' w'=>Ext w w'∧ay P ops Q st N f.2 a' w') a w
def vv (md:Region.Mode) (ops:Array Oper) (N m:Nat) (jj:List (Nat×List (Nat×Nat))):List (Nat×Nat)→Array Bool→Bool
 |[],listed=>(Region.ready md ops listed==jj.map (·.1))&&(!jj.isEmpty)&&jj.all fun f=>decide (f.2.length=m)&&lS md ops N f.2 (listed.setIfInBounds f.1 true)
 |(i,k)::rest,listed=>
  (if k=0 then (Region.ready md ops listed).contains i&&Region.free md ops listed i&&decide (i<N)
   else if k=1 then (Region.ready md ops listed).contains i&&Region.free md ops listed i&&decide (i<N)&&((List.range ops.size).all fun j=>decide (j<N)||anc md ops ops.size j i)
   else (Region.ready md ops listed==[i])&&decide (i<N))&&vv md ops N m jj rest (listed.setIfInBounds i true)
theorem k7 (L:fy P ops Q st) (iP:Region.noSelect ops=true) (m:Nat) (jj:List (Nat×List (Nat×Nat))):∀(eY:List (Nat×Nat)) (listed:Array Bool) (a:Act) (w w0:World),
 vv md ops N m jj eY listed=true→Closed md ops listed→listed.size=ops.size→Ext w0 w→ay P ops (NA P ops Q st N jj) st N eY a w→jP md ops Q st N (Ext w0) (eY.length+(m+1)) listed a w
 |[],listed,a,w,w0,hB,db,hsz,hE,h=>by
  simp only[vv,agz,Bool.not_eq_true'] at hB;obtain⟨⟨hr,dt⟩,dV⟩:=hB;have hr:Region.ready md ops listed=jj.map (·.1):=by simpa using hr
  rw[List.length_nil,Nat.zero_add];refine⟨fun h0=>(by rw[h0] at hr;cases jj with|nil=>simp at dt|cons x xs=>simp at hr),fun j hj=>?_⟩;have yG:=hj;rw[hr] at yG;obtain⟨f,hf,rfl⟩:=List.mem_map.1 yG;have hfb:=List.all_eq_true.1 dV f hf;simp only[agz,agy] at hfb;have cW:st f.1 (fun a' w'=>Ext w w'∧ay P ops Q st N f.2 a' w') a w:=h f hf;refine L.mono (fun a' w' h'=>?_) cW;have Cd:=hE.trans h'.1;have:=ix L iP f.2 _ a' w' w0 0 hfb.2 (db.set hj) (by simpa using hsz) Cd h'.2;rw[Nat.add_zero,hfb.1] at this;exact⟨.inr Cd,this⟩
 |(i,k)::rest,listed,a,w,w0,hB,db,hsz,hE,h=>by
  have Il:=hB
  by_cases ls:k=0
  · simp only[vv,ls,if_true,agz,agy] at hB
    obtain⟨⟨⟨hr,hf⟩,lP⟩,fp⟩:=hB;have qV:i∈Region.ready md ops listed:=by simpa using hr
    simp only[ay,ls,if_true] at h;split at h
    · exact h.elim
    rename_i o ho;obtain⟨v,hy,hK⟩:=h;have sE:=k7 L iP m jj rest (listed.setIfInBounds i true) (a.put o.dst v) w w0 fp (db.set qV) (by simpa using hsz) hE hK;have h1:=fu L (S:=Ext w0) (S1:=fun _=>True) ho (Region.noSelect_spec iP) lP (fun _ _ _ _ _=>trivial) (rest.length+(m+1)) listed a w db (Region.free_spec ho hf) qV hy (.inr hE) sE;rw[agm,show rest.length+1+(m+1)=rest.length+(m+1)+1 by omega];exact h1
  by_cases nq:k=1
  · subst nq
    simp only[vv,if_true,agz,agy,Nat.one_ne_zero,if_false] at hB;obtain⟨⟨⟨⟨hr,hf⟩,lP⟩,M1⟩,fp⟩:=hB;have qV:i∈Region.ready md ops listed:=by simpa using hr
    simp only[ay,if_true,Nat.one_ne_zero,if_false] at h;split at h
    · exact h.elim
    rename_i o ho;obtain⟨v,hy,hK⟩:=h;have sE:=k7 L iP m jj rest (listed.setIfInBounds i true) (a.put o.dst v) w w fp (db.set qV) (by simpa using hsz) (Ext.refl w) hK
    have h1:=fu L (S:=Ext w) (S1:=Ext w) ho (Region.noSelect_spec iP) lP (fun l w' hc hu ht=>by
     rcases ht with ⟨t,ht,hl⟩|h
     · exfalso
       have Ew:t<ops.size∨¬t<ops.size:=Decidable.em _;rcases Ew with Ew|Ew
       · have:=List.all_eq_true.1 M1 t (List.mem_range.2 Ew)
         simp only[Bool.or_eq_true,agy] at this;have:=qi hc _ _ _ hl (this.resolve_left (by omega));rw[kf hu] at this
         cases this
       rw[show l.getD t false=false by simp[Array.getElem?_eq_none (show l.size≤t by rw[hc.1];omega)]] at hl
       cases hl
     exact h) (rest.length+(m+1)) listed a w db (Region.free_spec ho hf) qV hy (.inr (Ext.refl w)) sE
    rw[agm,show rest.length+1+(m+1)=rest.length+(m+1)+1 by omega];exact kX L (fun w' x6=>hE.trans x6) _ _ _ _ h1
  simp only[vv,ls,nq,if_false,agz,agy] at hB;obtain⟨⟨hr,lP⟩,fp⟩:=hB;have hr:Region.ready md ops listed=[i]:=by simpa using hr
  have qV:i∈Region.ready md ops listed:=by rw[hr];simp
  rw[agm,show rest.length+1+(m+1)=rest.length+(m+1)+1 by omega];refine⟨fun h0=>(by rw[h0] at hr;cases hr),fun j hj=>?_⟩;rw[hr] at hj;obtain rfl:j=i:=by simpa using hj
  simp only[ay,ls,nq,if_false] at h;refine L.mono (fun a' w' h'=>?_) h;have Cd:=hE.trans (h'.1.resolve_left (by omega));exact⟨.inr Cd,k7 L iP m jj rest _ a' w' w0 fp (db.set qV) (by simpa using hsz) Cd h'.2⟩
end
section
variable {P:Program} {ops:Array Oper} {N:Nat}
theorem iS {id:Nat} {Q:Exit→Act→World→Prop} {a:Act} {w:World} {l:List Oper} (eY:List (Nat×Nat)) (m:Nat) (jj:List (Nat×List (Nat×Nat))) (N:Nat) (hm:P.follows .mixedOrders=true)
 (hB:(Region.noSelect l.toArray&&decide (eY.length+(m+1)=l.length)&&vv .any l.toArray N m jj eY (Array.replicate l.length false))=true) (hQ:∀c a d v w,Q (.panic c) (Act.put a d v) w→Q (.panic c) a w)
 (h:ay P l.toArray (NA P l.toArray (Q .normal) (fun i K a w=>wpOp P l.toArray Q i K a w) N jj) (fun i K a w=>wpOp P l.toArray Q i K a w) N eY a w.drew):(Code.region id l.toArray true).wp P Q a w:=by
 simp only[agz,agy] at hB;refine wp_region_any hm ?_
 have:=k7 (aw Q hQ) hB.1.1 m jj eY (Array.replicate l.length false) a w.drew w.drew hB.2 ⟨by simp,fun j oj hj hl=>by
  rcases Nat.lt_or_ge j l.length with h|h
  · simp[h] at hl
  simp[h] at hl⟩ (by simp) (Ext.refl _) h
 rw[hB.1.2] at this;have:=kg _ _ _ _ this;simpa using this
theorem k8 {Q:Exit→Act→World→Prop} {i j:Nat} {pi pj:List (Nat×Nat)} {oi oj:Oper} {a:Act} {w:World} (hoi:ops[i]?=some oi) (WJ:ops[j]?=some oj) (hgi:oi.guard=none) (hgj:oj.guard=none)
 (h1:∀K:Act→World→Prop,(∀a' w',(Ext w w'∧ay P ops (Q .normal) (fun i K a w=>wpOp P ops Q i K a w) N pi a' w')→K a' w')→oi.wp P a w K Q)
 (h2:∀K:Act→World→Prop,(∀a' w',(Ext w w'∧ay P ops (Q .normal) (fun i K a w=>wpOp P ops Q i K a w) N pj a' w')→K a' w')→oj.wp P a w K Q):
 ay P ops (NA P ops (Q .normal) (fun i K a w=>wpOp P ops Q i K a w) N [(i,pi),(j,pj)]) (fun i K a w=>wpOp P ops Q i K a w) N [] a w:=by
 intro f hf;simp only[List.mem_cons,List.not_mem_nil,or_false] at hf;rcases hf with rfl|rfl
 · simp only[wpOp,hoi,Region.wanted,hgi,if_true]
   exact .inl (h1 _ (fun _ _ h=>h))
 simp only[wpOp,WJ,Region.wanted,hgj,if_true];exact .inl (h2 _ (fun _ _ h=>h))
end
end Go.Proofs.YtcjioogololnoaaGreatDoor
namespace Go.Proofs.YtcjioogololnoaaGreatDoor
open Go.RowKit Go.Shelf
section
variable {P:Program} {ops:Array Oper} {Q:Act→World→Prop} {st:Nat→(Act→World→Prop)→Act→World→Prop} {N:Nat}
theorem eI {i:Nat} {rest:List (Nat×Nat)} {o:Oper} {a:Act} {w:World} (ho:ops[i]?=some o) (hg:o.guard=none) (ty:TypeId) (x:Operand) (xX:o.op=.load ty x)
 (b off:Nat) (hx:a.eval x=.pointer (some ⟨b,off,none⟩)) (cs:List Value) (d:TypeDesc) (hc:w.rangeAt b off cs) (hu:P.underlying ty=some d) (hd:d.isRow=true) (hi:(P.info? ty).map (·.size)=some cs.length)
 (h:ay P ops Q st N rest (a.put o.dst (.agg cs.toArray)) w):ay P ops Q st N ((i,1)::rest) a w:=by
 simp only[ay,if_true,ho,Nat.one_ne_zero,if_false];exact⟨_,yieldsIf_load_mid (by simp[Region.wanted,hg]) ty x xX b off hx cs d (fun w' x6 j v hv=>(x6.below.cell (World.block_lt_of_cell? w _ (hc j v hv))).trans (hc j v hv)) hu hd hi,h⟩
theorem rj {i:Nat} {rest:List (Nat×Nat)} {o:Oper} {a:Act} {w:World} (ho:ops[i]?=some o) (hg:o.guard=none) (t:TypeId) (parts:Array (Nat×Operand)) (xX:o.op=.build t parts) (cells:Array Value)
 (hc:P.built t (parts.map fun (i,x)=>(i,a.eval x)).toList=some cells) (h:ay P ops Q st N rest (a.put o.dst (.agg cells)) w):ay P ops Q st N ((i,0)::rest) a w:=by
 simp only[ay,if_true,ho];refine⟨_,.inl ⟨by simp[Region.wanted,hg],fun w' _=>?_⟩,h⟩;unfold execOp;simp only[xX,Sem.run_bind,run_build w' t _ cells hc,Result.andThen_ok];rfl
end
theorem Ow.sx {w:World} {base E g n c:Nat} {A:Option Addr} {xs:List Value} (h:Ow w base E (.slice A n c) xs) (hg:g<base):Sx g w A xs:=fun hn=>by
 obtain⟨b,o,e2,hb,hc⟩:=h.sl hn;obtain⟨A',c',e,h1,h2,h3⟩:=h;injection e with e1 e3 e4;obtain⟨g',cur,e,hbg,_⟩:=h3 (by omega);rw[←e1] at e;rw[e] at e2;injection e2 with e2;injection e2 with e2 e5;subst e2 e5;exact⟨g',0,e,by omega,hb,hc⟩
theorem Ai (w:World) (g:Nat) (cs:Array Value):w.grownBy (w.setRow g cs) (some g):=⟨rfl,rfl,rfl,by simp,fun k _ dt=>setRow_other w g k cs (fun e=>dt (by rw[e]))⟩
theorem NB (st:List (BitVec 32)) (A:Option Addr) (m c:Nat) (k:Int) (b:Bool):(SC st (.slice A m c) (.int .u64 k) (.bool b)).all (·.oneCell')=true:=all_oneCell_toArray fun v hv=>by
 simp only[List.mem_append,eK,List.mem_map] at hv;rcases hv with ⟨x,_,rfl⟩|hv
 · rfl
 simp at hv;rcases hv with rfl|rfl|rfl<;>rfl
def ia (st:List (BitVec 32)):List UInt8:=st.flatMap fun x=>[UInt8.ofNat (x.toNat/16777216),UInt8.ofNat (x.toNat/65536),UInt8.ofNat (x.toNat/256),UInt8.ofNat x.toNat]
theorem jF (st:List (BitVec 32)):(ia st).length=4*st.length:=by
 induction st with
 |nil=>rfl
 |cons x st ih=>simp[ia] at ih⊢;omega
theorem vw (st:List (BitVec 32)) (k:Nat) (h:k<st.length):(ia st)[4*k]?=some (UInt8.ofNat (st[k].toNat/16777216))∧(ia st)[4*k+1]?=some (UInt8.ofNat (st[k].toNat/65536))∧
 (ia st)[4*k+2]?=some (UInt8.ofNat (st[k].toNat/256))∧(ia st)[4*k+3]?=some (UInt8.ofNat st[k].toNat):=by
 induction st generalizing k with
 |nil=>simp at h
 |cons x st ih=>
  cases k with
  |zero=>simp[ia]
  |succ k=>
   have:=ih k (by simpa using h);simp only[ia,List.flatMap_cons,List.getElem_cons_succ] at this⊢;rw[show 4*(k+1)=4*k+4 by omega,show 4*k+4+1=4*k+1+4 by omega,show 4*k+4+2=4*k+2+4 by omega,show 4*k+4+3=4*k+3+4 by omega];simpa using this
theorem CI (g:Nat) (st:List (BitVec 32)) (cW:st.length=8) (A:Option Addr) (c:Nat) (wb:List UInt8) (n:Nat) (w:World)
 (hg:w.heap[g]?=some (.cells (SC st (.slice A wb.length c) (.int .u64 n) (.bool true)) 209 (0,0))) (hX:Sx g w A (B8 wb)) (hn:n≤4096) (Sy:wb.length≤64) (CJ:wb.length≤c) (hc:c≤maxLen):
 Calls Tryz.prog 192 #[.pointer (some ⟨g,0,none⟩)] w fun e W'=>e=.returned (.agg (B8 (ia (blk st (wb++fb n 8) ((wb++fb n 8).length/64)))).toArray)∧Below w.heap.size w W':=by
 obtain⟨s0,s1,s2,s3,s4,s5,s6,s7,rfl⟩:∃s0 s1 s2 s3 s4 s5 s6 s7,st=[s0,s1,s2,s3,s4,s5,s6,s7]:=by
  match st,cW with
  |[s0,s1,s2,s3,s4,s5,s6,s7],_=>exact⟨s0,s1,s2,s3,s4,s5,s6,s7,rfl⟩
 clear cW;have oU:g<w.heap.size:=(af3.1 hg).1;have Hg0:=aa hg;have bW:Tryz.prog.follows .mixedOrders=true:=by kernel_rfl
 clear hg;go_enter Tryz.func192,Tryz.ntmps192;go_wp2_with fail;obtain⟨w1,gu⟩:∃w1,w1=w.alloc (.cells (Array.replicate 32 (.int .u8 0)) 168):=⟨_,rfl⟩;have k9:w1.heap[w.heap.size]?=some (.cells (Array.replicate 32 (.int .u8 0)) 168 (0,0)):=by rw[gu];exact af4 w _
 have jd:=(show w1.heap[g]?=w.heap[g]? by rw[gu];exact Below.heap_alloc w _ g oU).trans Hg0.out;have Vf:Sx g w1 A (B8 wb):=by rw[gu];exact hX.alloc _
 have fj:Below w.heap.size w w1:=by rw[gu];exact(af5 _ w).alloc (af2 _) _
 refine(show w1=_ from gu)▸?_;obtain⟨d8,d9,d10,df⟩:=ew rfl jd
 have jQ:w1.rangeAt g 0 (eK [s0,s1,s2,s3,s4,s5,s6,s7]):=fun j v hv=>by
  rw[Nat.zero_add,agb w1 g j _ _ (0,0) jd,SC];have hj:j<(eK [s0,s1,s2,s3,s4,s5,s6,s7]).length:=(agI.1 hv).1;rw[agr,agK hj];exact hv
 have Aj:=aa jQ;have vx:=aa jd;have pR:=aa k9;clear gu jd jQ k9 df;refine iS [(0,0),(1,0),(2,0),(3,1),(4,0),(5,0),(6,0),(7,1),(9,0),(10,0),(11,0),(12,1),(13,0),(14,0),(15,0),(16,1)] 3 [(8,[(17,0),(18,2),(19,2)]),(18,[(8,2),(17,0),(19,2)])] 19 bW (by kernel_rfl) (by intro c a d v w h;cases d<;>exact h) ?_
 iterate 3 (refine ag rfl (fun K hK=>?_);go_simp;refine hK _ ?_;clear hK K)
 refine eI rfl rfl 207 (.tmp 9) rfl g 0 rfl _ (.array 8 55) Aj.out (by kernel_rfl) rfl (by kernel_rfl) ?_;go_simp
 repeat ((first|refine ag rfl fun K hK=>?_|refine af rfl fun K hK=>?_);go_simp;(first|refine hK _ ?_|(simp only[IntWalk.iteOmega];go_simp;refine hK _ ?_)|(go_bits;go_simp;refine hK _ ?_));clear hK K;try go_bits)
 refine k8 rfl rfl rfl rfl (fun K hK=>?_) (fun K hK=>?_)
 · go_wp2_with fail
   refine(lU A c wb w1.drew Vf.sl (by omega)).mono ?_;rintro e w2 ⟨v,rfl,ho,hb⟩;obtain⟨Av,cv,rfl,J1,acW⟩:=aH ho;go_wp2_with fail;refine⟨aj hb,?_⟩;refine rj rfl rfl 209 _ rfl (SC [s0,s1,s2,s3,s4,s5,s6,s7] (.slice Av wb.length cv) (.int .u64 n) (.bool true)) (by kernel_rfl) ?_;go_simp;refine ae rfl rfl (fun K hK=>?_);go_wp2_with fail;refine⟨.inr (aW _ _),?_⟩;refine ae rfl rfl (fun K hK=>?_);refine agC 209 (.tmp 3) (.tmp 24) rfl w2.heap.size (SC [s0,s1,s2,s3,s4,s5,s6,s7] (.slice Av wb.length cv) (.int .u64 n) (.bool true)) rfl rfl 209 _ (af4 w2 _) (by kernel_rfl) rfl (NB _ _ _ _ _ _) ?_;rw[agi];refine hK _ _ ⟨.inl (by decide),ak ?_⟩;clear hK K;simp only[Act.put];obtain⟨gt,nt⟩:=ab w2.heap.size;rw[←nt];obtain⟨wN,dL⟩:∃wN,wN=w2.alloc (.cells (SC [s0,s1,s2,s3,s4,s5,s6,s7] (.slice Av wb.length cv) (.int .u64 n) (.bool true)) 209):=⟨_,rfl⟩;rw[←dL];have Sz:wN.heap[gt]?=some (.cells (SC [s0,s1,s2,s3,s4,s5,s6,s7] (.slice Av wb.length cv) (.int .u64 n) (.bool true)) 209 (0,0)):=by rw[dL,nt];exact af4 w2 _
   have hOv:Ow wN w1.heap.size 5 (.slice Av wb.length cv) (B8 wb):=by rw[dL];exact Ow.alloc (base:=w1.heap.size) ho _
   have Cb:Below w1.heap.size w1 w2:=⟨hb.os,hb.tape,hb.output,hb.size,hb.block⟩;have J2:Below w1.heap.size w1 wN:=by rw[dL];exact Cb.alloc Cb.size _
   have SA:w1.heap.size≤gt:=by rw[nt];exact Cb.size
   have ki:=vx.out;clear dL nt hb ho Cb;have NC:gt<wN.heap.size:=(af3.1 Sz).1;have Ao:w.heap.size<w1.heap.size:=(af3.1 pR.out).1;have jG:=(J2.block w.heap.size Ao).trans pR.out;have hBw:=fj.trans (J2.mono fj.size);obtain⟨e8,e9,e10,ef⟩:=ew rfl Sz;have HGt:=aa Sz;have ND:=aa jG;clear Sz jG ef d8 d9 d10 vx;have lv:wN.heap[g]?=_:=(J2.block g (by have:=fj.size;omega)).trans ki;obtain⟨d8,d9,d10,df⟩:=ew rfl lv;clear lv df;go_simp;go_wp2_with fail;refine(CH n (by omega) wN).mono ?_;rintro e w3 ⟨tv,rfl,Is,bd⟩;obtain⟨tl,Ap⟩:=ab (fb n 8);have yb:tl.length≤72:=by rw[Ap,iR n 8 (af2 _)];omega
   rw[←Ap] at Is;have Rm:=aa Ap;clear Ap;obtain⟨At,ct,rfl,hct,Xv⟩:=aH Is;have NF:=(bd.block gt NC).trans HGt.out;have hO3:=hOv.below bd (af2 _);have hXt:Sx gt w3 At (B8 tl):=Is.sx NC;go_wp2_with fail;refine(yO gt w1.heap.size [s0,s1,s2,s3,s4,s5,s6,s7] rfl _ wb (tl) n At ct w3 SA NF (agx J2.size bd.size) hO3 hXt (by omega) (by omega) hct Xv).mono ?_;rintro e w4 ⟨rfl,dn,A4,c4,Aq,SB,Xr,JU⟩;obtain⟨t0,SD⟩:∃t,t=blk [s0,s1,s2,s3,s4,s5,s6,s7] (wb++tl) ((wb++tl).length/64):=⟨_,rfl⟩;have E4:t0.length=8:=by rw[SD,cq];rfl
   have lD:=(J2.trans (bd.mono J2.size)).trans dn;have CK:=(lD.block w.heap.size Ao).trans pR.out;have NG:=fj.trans (lD.mono fj.size);have Xw:gt<w4.heap.size:=(af3.1 JU).1
   have qm:w4.rangeAt gt 0 (eK t0):=fun j v hv=>by
    rw[Nat.zero_add,agb w4 gt j _ _ (0,0) JU,SC,←SD];have hj:j<(eK t0).length:=(agI.1 hv).1;rw[agr,agK hj];exact hv
   have Ht0:=aa SD;clear SD;have Aa:(w4.alloc (.cells (Array.replicate 32 (.int .u8 0)) 168)).rangeAt gt 0 (eK t0):=fun j v hv=>(World.cell?_alloc_lt w4 _ _ (by exact Xw)).trans (qm j v hv)
   have Hr5:=aa Aa;have NH:=aa CK;have Hi5:Hid ((Tryz.prog.info? 207).map (·.size)=some (eK t0).length):=aa (by rw[W32_length,E4];kernel_rfl);clear qm Aa CK JU NF hO3 hXt e8 e9 e10 d8 d9 d10 Xr HGt ND Aj Is yb;go_wp2_with (refine wpList_load_mid rfl 207 (.tmp 31) rfl gt 0 rfl (eK t0) (.array 8 55) Hr5.out (by kernel_rfl) rfl Hi5.out ?_);obtain⟨tc,Xx⟩:∃tc,tc=(eK t0).toArray:=⟨_,rfl⟩;rw[←Xx];have Htc:=aa Xx;have EB:(ia t0).length=32:=by rw[jF,E4]
   obtain⟨oc,fD⟩:∃oc,oc=(B8 (ia t0)).toArray:=⟨_,rfl⟩;have dO:oc.size=32:=by rw[fD];simp[EB]
   have cG:Hid ((Tryz.prog.info? 168).map (·.size)=some oc.size):=aa (by rw[dO];kernel_rfl);have iy:Hid ((Array.replicate 32 (Value.int .u8 0)).size=oc.size):=aa (by rw[dO];simp);have fQ:Hid (oc.all (·.oneCell')=true):=aa (by rw[fD];exact all_oneCell_toArray (aG _));have pA:=aa fD;clear Xx hBw dn bd Hr5 Hi5 fD dO;go_loopw [33] (fun i wr=>∃k:Nat,k≤8∧i=.int .i64 k∧Fill wr w4.heap.size 168 32 (B8 (ia t0)) (4*k)∧Below w4.heap.size w4 wr) (fun i _=>8-(intOf i).toNat)
   case atStart=>exact⟨0,agu _,rfl,Fill.new' w4 _ 32 (.int .u8 0) _,(af5 _ _).alloc (af2 _) _⟩
   case round=>
    obtain⟨k,hk,rfl,bK,mL⟩:=hrel
    by_cases aL:k<8
    · obtain⟨x,hx⟩:∃x,x=t0[k]:=⟨_,rfl⟩
      have mM:=lC (P:=Tryz.prog) 207 55 8 tc .i64 k (.int .u32 (x.toNat:Int)) (by kernel_rfl) (by kernel_rfl) (by kernel_rfl) aL (by rw[Htc.out];simp[eK,E4,aL,hx]);have hxl:=x.isLt;obtain⟨v0,c0⟩:=bK.cell (j:=4*k) (by omega);obtain⟨v1,c1⟩:=bK.cell (j:=4*k+1) (by omega);obtain⟨v2,c2⟩:=bK.cell (j:=4*k+2) (by omega);obtain⟨v3,c3⟩:=bK.cell (j:=4*k+3) (by omega);have z0:=bK.frozen (4*k);have z1:=bK.frozen (4*k+1);have z2:=bK.frozen (4*k+2);have z3:=bK.frozen (4*k+3);have Hx:=aa hx;clear hx;go_wp2_with fail;obtain⟨g0,g1,g2,g3⟩:=vw t0 k (by omega);rw[←Hx.out] at g0 g1 g2 g3
      have b8:∀(j m:Nat),(ia t0)[j]?=some (UInt8.ofNat m)→(B8 (ia t0))[j]?=some (Value.int IntKind.u8 ((m%256:Nat):Int)):=fun j m h=>by
       rw[B8,List.getElem?_map,h];simp
      have f1:=bK.set (by omega) (b8 _ _ g0);have f2:=f1.set (by omega) (b8 _ _ g1);have f3:=f2.set (by omega) (b8 _ _ g2);have f4:=f3.set (by omega) (b8 _ _ g3);have e0:((x.toNat/16777216%256:Nat):Int)=(x.toNat:Int)/16777216:=by omega
      have e1:((x.toNat/65536%256:Nat):Int)=(x.toNat:Int)/65536%256:=by omega
      have e2:((x.toNat/256%256:Nat):Int)=(x.toNat:Int)/256%256:=by omega
      have e3:((x.toNat%256:Nat):Int)=(x.toNat:Int)%256:=by omega
      rw[e0,e1,e2,e3] at f4;have CL:=(((mL.setCell (p:=⟨w4.heap.size,4*k,none⟩) (af2 _) (.int .u8 ((x.toNat:Int)/16777216))).setCell (p:=⟨w4.heap.size,4*k+1,none⟩) (af2 _) (.int .u8 ((x.toNat:Int)/65536%256))).setCell (p:=⟨w4.heap.size,4*k+2,none⟩) (af2 _) (.int .u8 ((x.toNat:Int)/256%256))).setCell (p:=⟨w4.heap.size,4*k+3,none⟩) (af2 _) (.int .u8 ((x.toNat:Int)%256));exact⟨⟨k+1,by omega,rfl,f4,CL⟩,by simp[intOf];omega⟩
    obtain rfl:k=8:=by omega
    have iD:=bK.done (by simp[EB]);rw[←pA.out] at iD;have Xy:w.heap.size<w4.heap.size:=by have:=NG.size;have:=lD.size;omega
    have CM:=(mL.block w.heap.size Xy).trans NH.out;have CN:=aa iD;have tM:=aa CM;clear iD CM bK;go_wp2_with (first|(refine aga rfl 168 (.tmp 4) rfl w4.heap.size rfl 168 oc (0,0) (.array 32 5) CN.out (by kernel_rfl) rfl cG.out ?_)|(refine af6 rfl 168 (.tmp 2) (.tmp 64) rfl w.heap.size oc rfl rfl 168 _ tM.out cG.out iy.out fQ.out ?_));refine agf (v:=.agg oc) ?_ rfl ⟨by rw[pA.out,Ht0.out,Rm.out],ah (NG.trans (mL.mono (by omega))) (af2 _) _⟩;exact ags rfl _ _ w.heap.size 168 oc (0,0) (.array 32 5) rfl (agd _ _ _ _ _ _ tM.out) (by kernel_rfl) rfl cG.out
 go_wp2_with fail;refine⟨aW _ _,?_⟩;refine ae rfl rfl (fun K hK=>?_);go_wp2_with fail;refine Calls.mono (lU A c wb _ ?hs (by omega)) ?_
 case hs=>exact(show Sx g (World.drew (w1.alloc _)) A (B8 wb) from Vf.alloc _).sl
 rintro e w2 ⟨v,rfl,ho,hb⟩;obtain⟨Av,cv,rfl,J1,acW⟩:=aH ho;go_wp2_with fail;refine⟨.inr (aj hb),?_⟩;refine rj rfl rfl 209 _ rfl (SC [s0,s1,s2,s3,s4,s5,s6,s7] (.slice Av wb.length cv) (.int .u64 n) (.bool true)) (by kernel_rfl) ?_;refine ae rfl rfl (fun K hK=>?_);have lv:=(hb.block w1.heap.size (by show w1.heap.size<(w1.alloc _).heap.size;rw[agn];omega)).trans (af4 w1 _);refine agC 209 (.tmp 3) (.tmp 24) rfl w1.heap.size (SC [s0,s1,s2,s3,s4,s5,s6,s7] (.slice Av wb.length cv) (.int .u64 n) (.bool true)) rfl rfl 209 _ lv (by kernel_rfl) rfl (NB _ _ _ _ _ _) ?_;refine hK _ _ ⟨.inl (by decide),ak ?_⟩;clear hK K;simp only[Act.put];obtain⟨gt,nt⟩:=ab w1.heap.size;rw[←nt];rw[←nt] at lv;obtain⟨wN,dL⟩:=ab (w2.setRow gt (SC [s0,s1,s2,s3,s4,s5,s6,s7] (.slice Av wb.length cv) (.int .u64 n) (.bool true)));rw[←dL];have SA:w1.heap.size≤gt:=by omega
 have Sz:wN.heap[gt]?=some (.cells (SC [s0,s1,s2,s3,s4,s5,s6,s7] (.slice Av wb.length cv) (.int .u64 n) (.bool true)) 209 (0,0)):=by rw[dL];exact agd _ _ _ _ _ _ lv
 have hOv:Ow wN w1.heap.size 5 (.slice Av wb.length cv) (B8 wb):=by
  rw[dL];refine(ho.mono (by show w1.heap.size≤(w1.alloc _).heap.size;rw[agn];omega)).kept (Ai w2 gt _) (fun r hr e=>?_);have:=(ho.row r hr).1;injection e with e;rw[show (World.drew (w1.alloc _)).heap.size=w1.heap.size+1 from agn _ _] at this;omega
 have Cb:Below w1.heap.size w1 w2:=Below.trans (((af5 _ w1).alloc (af2 _) _).drew) (hb.mono (by show w1.heap.size≤(w1.alloc _).heap.size;rw[agn];omega));have J2:Below w1.heap.size w1 wN:=by rw[dL];exact ah Cb SA _
 have ki:=vx.out;clear dL nt hb ho Cb lv;have NC:gt<wN.heap.size:=(af3.1 Sz).1;have Ao:w.heap.size<w1.heap.size:=(af3.1 pR.out).1;have jG:=(J2.block w.heap.size Ao).trans pR.out;have hBw:=fj.trans (J2.mono fj.size);obtain⟨e8,e9,e10,ef⟩:=ew rfl Sz;have HGt:=aa Sz;have ND:=aa jG;clear Sz jG ef d8 d9 d10 vx;have lv:wN.heap[g]?=_:=(J2.block g (by have:=fj.size;omega)).trans ki;obtain⟨d8,d9,d10,df⟩:=ew rfl lv;clear lv df;go_simp;go_wp2_with fail;refine(CH n (by omega) wN).mono ?_;rintro e w3 ⟨tv,rfl,Is,bd⟩;obtain⟨tl,Ap⟩:=ab (fb n 8);have yb:tl.length≤72:=by rw[Ap,iR n 8 (af2 _)];omega
 rw[←Ap] at Is;have Rm:=aa Ap;clear Ap;obtain⟨At,ct,rfl,hct,Xv⟩:=aH Is;have NF:=(bd.block gt NC).trans HGt.out;have hO3:=hOv.below bd (af2 _);have hXt:Sx gt w3 At (B8 tl):=Is.sx NC;go_wp2_with fail;refine(yO gt w1.heap.size [s0,s1,s2,s3,s4,s5,s6,s7] rfl _ wb (tl) n At ct w3 SA NF (agx J2.size bd.size) hO3 hXt (by omega) (by omega) hct Xv).mono ?_;rintro e w4 ⟨rfl,dn,A4,c4,Aq,SB,Xr,JU⟩;obtain⟨t0,SD⟩:∃t,t=blk [s0,s1,s2,s3,s4,s5,s6,s7] (wb++tl) ((wb++tl).length/64):=⟨_,rfl⟩;have E4:t0.length=8:=by rw[SD,cq];rfl
 have lD:=(J2.trans (bd.mono J2.size)).trans dn;have CK:=(lD.block w.heap.size Ao).trans pR.out;have NG:=fj.trans (lD.mono fj.size);have Xw:gt<w4.heap.size:=(af3.1 JU).1
 have qm:w4.rangeAt gt 0 (eK t0):=fun j v hv=>by
  rw[Nat.zero_add,agb w4 gt j _ _ (0,0) JU,SC,←SD];have hj:j<(eK t0).length:=(agI.1 hv).1;rw[agr,agK hj];exact hv
 have Ht0:=aa SD;clear SD;have Aa:(w4.alloc (.cells (Array.replicate 32 (.int .u8 0)) 168)).rangeAt gt 0 (eK t0):=fun j v hv=>(World.cell?_alloc_lt w4 _ _ (by exact Xw)).trans (qm j v hv)
 have Hr5:=aa Aa;have NH:=aa CK;have Hi5:Hid ((Tryz.prog.info? 207).map (·.size)=some (eK t0).length):=aa (by rw[W32_length,E4];kernel_rfl);clear qm Aa CK JU NF hO3 hXt e8 e9 e10 d8 d9 d10 Xr HGt ND Aj Is yb;go_wp2_with (refine wpList_load_mid rfl 207 (.tmp 31) rfl gt 0 rfl (eK t0) (.array 8 55) Hr5.out (by kernel_rfl) rfl Hi5.out ?_);obtain⟨tc,Xx⟩:∃tc,tc=(eK t0).toArray:=⟨_,rfl⟩;rw[←Xx];have Htc:=aa Xx;have EB:(ia t0).length=32:=by rw[jF,E4]
 obtain⟨oc,fD⟩:∃oc,oc=(B8 (ia t0)).toArray:=⟨_,rfl⟩;have dO:oc.size=32:=by rw[fD];simp[EB]
 have cG:Hid ((Tryz.prog.info? 168).map (·.size)=some oc.size):=aa (by rw[dO];kernel_rfl);have iy:Hid ((Array.replicate 32 (Value.int .u8 0)).size=oc.size):=aa (by rw[dO];simp);have fQ:Hid (oc.all (·.oneCell')=true):=aa (by rw[fD];exact all_oneCell_toArray (aG _));have pA:=aa fD;clear Xx hBw dn bd Hr5 Hi5 fD dO;go_loopw [33] (fun i wr=>∃k:Nat,k≤8∧i=.int .i64 k∧Fill wr w4.heap.size 168 32 (B8 (ia t0)) (4*k)∧Below w4.heap.size w4 wr) (fun i _=>8-(intOf i).toNat)
 case atStart=>exact⟨0,agu _,rfl,Fill.new' w4 _ 32 (.int .u8 0) _,(af5 _ _).alloc (af2 _) _⟩
 case round=>
  obtain⟨k,hk,rfl,bK,mL⟩:=hrel
  by_cases aL:k<8
  · obtain⟨x,hx⟩:∃x,x=t0[k]:=⟨_,rfl⟩
    have mM:=lC (P:=Tryz.prog) 207 55 8 tc .i64 k (.int .u32 (x.toNat:Int)) (by kernel_rfl) (by kernel_rfl) (by kernel_rfl) aL (by rw[Htc.out];simp[eK,E4,aL,hx]);have hxl:=x.isLt;obtain⟨v0,c0⟩:=bK.cell (j:=4*k) (by omega);obtain⟨v1,c1⟩:=bK.cell (j:=4*k+1) (by omega);obtain⟨v2,c2⟩:=bK.cell (j:=4*k+2) (by omega);obtain⟨v3,c3⟩:=bK.cell (j:=4*k+3) (by omega);have z0:=bK.frozen (4*k);have z1:=bK.frozen (4*k+1);have z2:=bK.frozen (4*k+2);have z3:=bK.frozen (4*k+3);have Hx:=aa hx;clear hx;go_wp2_with fail;obtain⟨g0,g1,g2,g3⟩:=vw t0 k (by omega);rw[←Hx.out] at g0 g1 g2 g3
    have b8:∀(j m:Nat),(ia t0)[j]?=some (UInt8.ofNat m)→(B8 (ia t0))[j]?=some (Value.int IntKind.u8 ((m%256:Nat):Int)):=fun j m h=>by
     rw[B8,List.getElem?_map,h];simp
    have f1:=bK.set (by omega) (b8 _ _ g0);have f2:=f1.set (by omega) (b8 _ _ g1);have f3:=f2.set (by omega) (b8 _ _ g2);have f4:=f3.set (by omega) (b8 _ _ g3);have e0:((x.toNat/16777216%256:Nat):Int)=(x.toNat:Int)/16777216:=by omega
    have e1:((x.toNat/65536%256:Nat):Int)=(x.toNat:Int)/65536%256:=by omega
    have e2:((x.toNat/256%256:Nat):Int)=(x.toNat:Int)/256%256:=by omega
    have e3:((x.toNat%256:Nat):Int)=(x.toNat:Int)%256:=by omega
    rw[e0,e1,e2,e3] at f4;have CL:=(((mL.setCell (p:=⟨w4.heap.size,4*k,none⟩) (af2 _) (.int .u8 ((x.toNat:Int)/16777216))).setCell (p:=⟨w4.heap.size,4*k+1,none⟩) (af2 _) (.int .u8 ((x.toNat:Int)/65536%256))).setCell (p:=⟨w4.heap.size,4*k+2,none⟩) (af2 _) (.int .u8 ((x.toNat:Int)/256%256))).setCell (p:=⟨w4.heap.size,4*k+3,none⟩) (af2 _) (.int .u8 ((x.toNat:Int)%256));exact⟨⟨k+1,by omega,rfl,f4,CL⟩,by simp[intOf];omega⟩
  obtain rfl:k=8:=by omega
  have iD:=bK.done (by simp[EB]);rw[←pA.out] at iD;have Xy:w.heap.size<w4.heap.size:=by have:=NG.size;have:=lD.size;omega
  have CM:=(mL.block w.heap.size Xy).trans NH.out;have CN:=aa iD;have tM:=aa CM;clear iD CM bK;go_wp2_with (first|(refine aga rfl 168 (.tmp 4) rfl w4.heap.size rfl 168 oc (0,0) (.array 32 5) CN.out (by kernel_rfl) rfl cG.out ?_)|(refine af6 rfl 168 (.tmp 2) (.tmp 64) rfl w.heap.size oc rfl rfl 168 _ tM.out cG.out iy.out fQ.out ?_));refine agf (v:=.agg oc) ?_ rfl ⟨by rw[pA.out,Ht0.out,Rm.out],ah (NG.trans (mL.mono (by omega))) (af2 _) _⟩;exact ags rfl _ _ w.heap.size 168 oc (0,0) (.array 32 5) rfl (agd _ _ _ _ _ _ tM.out) (by kernel_rfl) rfl cG.out
end Go.Proofs.YtcjioogololnoaaGreatDoor
namespace Go.Proofs.YtcjioogololnoaaGreatDoor
open Go.RowKit Go.Shelf
theorem J3 (st:List (BitVec 32)) (m t:List UInt8) (j:Nat) (h:64*j≤m.length):blk st (m++t) j=blk st m j:=by
 induction j with
 |zero=>rfl
 |succ j ih=>rw[blk,blk,ih (by omega),List.drop_append_of_le_length (by omega),List.take_append_of_le_length (by simp;omega)]
theorem NI (st:List (BitVec 32)) (m t:List UInt8) (j q:Nat) (h:64*j≤m.length):blk (blk st m j) (m.drop (64*j)++t) q=blk st (m++t) (j+q):=by
 induction q with
 |zero=>rw[blk,Nat.add_zero,J3 st m t j h]
 |succ q ih=>
  rw[blk,ih,←Nat.add_assoc,blk,←List.drop_append_of_le_length h,List.drop_drop];rw[show 64*j+64*q=64*(j+q) by omega]
def Ms (b:List UInt8):List UInt8:=b++fb b.length 8
def nw (b:List UInt8):List UInt8:=ia (blk nR (Ms b) ((Ms b).length/64))
theorem eU (b:List UInt8):(nw b).length=32:=by rw[nw,jF,cq,tL]
theorem yQ (b:List UInt8):ia (blk (blk nR b (b.length/64)) (b.drop (64*(b.length/64))++fb b.length 8) ((b.drop (64*(b.length/64))++fb b.length 8).length/64))=nw b:=by
 rw[nw,NI _ _ _ _ _ (by omega),Ms];congr 2;simp only[agc,agD];omega
theorem E5 (A:Option Addr) (c:Nat) (b:List UInt8) (w:World) (hs:Sl w w.heap.size A (B8 b)) (hl:b.length≤2048) (sF:b.length≤c) (hc:c≤maxLen):
 Calls Tryz.prog 193 #[.slice A b.length c] w fun e W'=>e=.returned (.agg (B8 (nw b)).toArray)∧Below w.heap.size w W':=by
 have vq:=hs;go_enter Tryz.func193,Tryz.ntmps193;go_wp2_with fail;obtain⟨wa,pS⟩:∃wa,wa=w.alloc (.cells (Array.replicate 32 (.int .u8 0)) 168):=⟨_,rfl⟩;obtain⟨w1,gu⟩:∃w1,w1=wa.alloc (.cells (SC (List.replicate 8 0) (.slice none 0 0) (.int .u64 (0:Nat)) (.bool false)) 209):=⟨_,rfl⟩;have CO:wa.heap.size=w.heap.size+1:=by rw[pS];exact agn _ _
 have gq:w1.heap.size=w.heap.size+2:=by rw[gu,agn,CO]
 have nt:w1.heap[w.heap.size+1]?=some (.cells (SC (List.replicate 8 0) (.slice none 0 0) (.int .u64 (0:Nat)) (.bool false)) 209 (0,0)):=by rw[gu,←CO];exact af4 wa _
 have vy:wa.heap[w.heap.size]?=some (.cells (Array.replicate 32 (.int .u8 0)) 168 (0,0)):=by rw[pS];exact af4 w _
 have k9:w1.heap[w.heap.size]?=some (.cells (Array.replicate 32 (.int .u8 0)) 168 (0,0)):=by rw[gu];exact(Below.heap_alloc wa _ _ (by omega)).trans vy
 have BO:Below w.heap.size w wa:=by rw[pS];exact(af5 _ w).alloc (af2 _) _
 have fj:Below w.heap.size w w1:=by rw[gu];exact BO.alloc (by omega) _
 have Vf:Sx (w.heap.size+1) w1 A (B8 b):=fun hn=>by
  obtain⟨bb,o,e,hb,db⟩:=(vq.below fj) hn;exact⟨bb,o,e,by omega,by omega,db⟩
 refine(show w1=_ by rw[gu,pS])▸?_;clear pS gu vy BO;refine(Ir (w.heap.size+1) (w.heap.size+1) (List.replicate 8 0) (by simp) (.slice none 0 0) [] b 0 A c w1 (af2 _) nt (by omega) (Ow.nil_ _ _ _ _) Vf (by omega) (by simpa using(by omega:b.length≤8192)) sF hc).mono ?_;rintro e w2 ⟨rfl,jZ,A2,c2,ez,CE,JT,qo⟩;rw[agJ] at ez JT qo;rw[Nat.zero_add] at qo;have jG:=(jZ.block w.heap.size (by omega)).trans k9;have Sy:(b.drop (64*(b.length/64))).length=b.length%64:=by rw[agD];omega
 rw[←Sy] at qo ez;go_wp2_with fail;refine(CI (w.heap.size+1) (blk nR b (b.length/64)) (by rw[cq];rfl) A2 c2 (b.drop (64*(b.length/64))) b.length w2 qo JT (by omega) (by omega) ez CE).mono ?_;rw[yQ];rintro e w3 ⟨rfl,py⟩;obtain⟨rr,qS⟩:=ab (nw b);have lZ:rr.length=32:=by rw[qS];exact eU _
 rw[←qS];obtain⟨oc,fD⟩:∃oc,oc=(B8 rr).toArray:=⟨_,rfl⟩;have dO:oc.size=32:=by rw[fD];simp[lZ]
 have cG:Hid ((Tryz.prog.info? 168).map (·.size)=some oc.size):=aa (by rw[dO];kernel_rfl);have iy:Hid ((Array.replicate 32 (Value.int .u8 0)).size=oc.size):=aa (by rw[dO];simp);have fQ:Hid (oc.all (·.oneCell')=true):=aa (by rw[fD];exact all_oneCell_toArray (aG _));have mI:=jZ.size;have nU:=(py.block w.heap.size (by omega)).trans jG;have E6:=(fj.trans (jZ.mono (by omega))).trans (py.mono (by omega));have pA:=aa fD;have Xz:=aa qS;have nV:=aa nU;rw[←fD];clear fD qS lZ dO nU jG k9 qo JT nt Vf vq;go_wp2_with (refine af6 rfl 168 (.tmp 2) (.tmp 6) rfl w.heap.size oc rfl rfl 168 _ nV.out cG.out iy.out fQ.out ?_);refine agf (v:=.agg oc) ?_ rfl ⟨by rw[pA.out,Xz.out],ah E6 (af2 _) _⟩;exact ags rfl _ _ w.heap.size 168 oc (0,0) (.array 32 5) rfl (agd _ _ _ _ _ _ nV.out) (by kernel_rfl) rfl cG.out
theorem J4 (g:Nat) (st:List (BitVec 32)) (cW:st.length=8) (A:Option Addr) (c:Nat) (wb:List UInt8) (n:Nat) (w:World)
 (hg:w.heap[g]?=some (.cells (SC st (.slice A wb.length c) (.int .u64 n) (.bool true)) 209 (0,0))) (hX:Sx g w A (B8 wb)) (hn:n≤4096) (Sy:wb.length≤64) (CJ:wb.length≤c) (hc:c≤maxLen):
 Calls Tryz.prog 162 #[.pointer (some ⟨g,0,none⟩)] w fun e W'=>e=.returned (.agg (B8 (nw (ia (blk st (wb++fb n 8) ((wb++fb n 8).length/64))))).toArray)∧Below w.heap.size w W':=by
 have oU:g<w.heap.size:=(af3.1 hg).1;have Hg:=aa hg;clear hg;go_enter Tryz.func162,Tryz.ntmps162;go_wp2_with fail;obtain⟨wa,pS⟩:∃wa,wa=w.alloc (.cells (Array.replicate 32 (.int .u8 0)) 168):=⟨_,rfl⟩;have CO:wa.heap.size=w.heap.size+1:=by rw[pS];exact agn _ _
 have vy:wa.heap[w.heap.size]?=some (.cells (Array.replicate 32 (.int .u8 0)) 168 (0,0)):=by rw[pS];exact af4 w _
 have BO:Below w.heap.size w wa:=by rw[pS];exact(af5 _ w).alloc (af2 _) _
 have hga:=(BO.block g oU).trans Hg.out;have hXa:=hX.below BO;refine(show wa=_ from pS)▸?_;clear pS;refine(CI g st cW A c wb n wa hga hXa hn Sy CJ hc).mono ?_;rintro e w1 ⟨rfl,fj⟩;obtain⟨h1,pC⟩:∃h1,h1=ia (blk st (wb++fb n 8) ((wb++fb n 8).length/64)):=⟨_,rfl⟩;have j7:h1.length=32:=by rw[pC,jF,cq,cW]
 rw[←pC];obtain⟨oc,fD⟩:∃oc,oc=(B8 h1).toArray:=⟨_,rfl⟩;have dO:oc.size=32:=by rw[fD];simp[j7]
 have cG:Hid ((Tryz.prog.info? 168).map (·.size)=some oc.size):=aa (by rw[dO];kernel_rfl);have iy:Hid ((Array.replicate 32 (Value.int .u8 0)).size=oc.size):=aa (by rw[dO];simp);have fQ:Hid (oc.all (·.oneCell')=true):=aa (by rw[fD];exact all_oneCell_toArray (aG _));rw[←fD];have pA:=aa fD;have J5:=aa pC;have gq:=fj.size;have k9:=(fj.block w.heap.size (by omega)).trans vy;have pR:=aa k9;clear fD pC dO k9 vy hga hXa;go_wp2_with (refine af6 rfl 168 (.tmp 3) (.tmp 5) rfl w1.heap.size oc rfl rfl 168 _ (af4 w1 _) cG.out iy.out fQ.out ?_);rw[agi];obtain⟨w2,iN⟩:=ab (w1.alloc (.cells oc 168));rw[←iN];have jZ:Below w1.heap.size w1 w2:=by rw[iN];exact(af5 _ _).alloc (af2 _) _
 have mI:w2.heap.size=w1.heap.size+1:=by rw[iN];exact agn _ _
 have qp:w2.heap[w1.heap.size]?=some (.cells (B8 h1).toArray 168 (0,0)):=by rw[iN,←pA.out];exact af4 w1 _
 have hS2:Sl w2 w2.heap.size (some ⟨w1.heap.size,0,none⟩) (B8 h1):=fun _=>⟨_,0,rfl,by omega,fun j hj=>by
  rw[agb w2 _ _ _ _ (0,0) qp,Nat.zero_add];simp⟩
 have jG:=(jZ.block w.heap.size (by omega)).trans pR.out;have pD:=E5 (some ⟨w1.heap.size,0,none⟩) 32 h1 w2 hS2 (by omega) (by omega) (by decide);rw[j7] at pD;refine pD.mono ?_;rintro e w3 ⟨rfl,py⟩;have nU:=(py.block w.heap.size (by omega)).trans jG;have E6:=((BO.trans (fj.mono (by omega))).trans (jZ.mono (by omega))).trans (py.mono (by omega));rw[J5.out];obtain⟨rr,qS⟩:∃rr,rr=nw (ia (blk st (wb++fb n 8) ((wb++fb n 8).length/64))):=⟨_,rfl⟩;have lZ:rr.length=32:=by rw[qS];exact eU _
 rw[←qS];clear cG iy fQ pA iN qp hS2 pD;obtain⟨oc,fD⟩:∃oc,oc=(B8 rr).toArray:=⟨_,rfl⟩;have dO:oc.size=32:=by rw[fD];simp[lZ]
 have cG:Hid ((Tryz.prog.info? 168).map (·.size)=some oc.size):=aa (by rw[dO];kernel_rfl);have iy:Hid ((Array.replicate 32 (Value.int .u8 0)).size=oc.size):=aa (by rw[dO];simp);have fQ:Hid (oc.all (·.oneCell')=true):=aa (by rw[fD];exact all_oneCell_toArray (aG _));have pA:=aa fD;have Xz:=aa qS;have nV:=aa nU;rw[←fD];clear fD qS lZ dO nU jG;go_wp2_with (refine af6 rfl 168 (.tmp 2) (.tmp 7) rfl w.heap.size oc rfl rfl 168 _ nV.out cG.out iy.out fQ.out ?_);refine agf (v:=.agg oc) ?_ rfl ⟨by rw[pA.out,Xz.out],ah E6 (af2 _) _⟩;exact ags rfl _ _ w.heap.size 168 oc (0,0) (.array 32 5) rfl (agd _ _ _ _ _ _ nV.out) (by kernel_rfl) rfl cG.out
theorem vz (A:Option Addr) (c:Nat) (b:List UInt8) (w:World) (hs:Sl w w.heap.size A (B8 b)) (hl:b.length≤2048) (sF:b.length≤c) (hc:c≤maxLen):
 Calls Tryz.prog 122 #[.slice A b.length c] w fun e W'=>e=.returned (.agg (B8 (nw (nw b))).toArray)∧Below w.heap.size w W':=by
 have vq:=hs;go_enter Tryz.func122,Tryz.ntmps122;go_wp2_with fail;obtain⟨wa,pS⟩:∃wa,wa=w.alloc (.cells (Array.replicate 32 (.int .u8 0)) 168):=⟨_,rfl⟩;obtain⟨w1,gu⟩:∃w1,w1=wa.alloc (.cells (SC (List.replicate 8 0) (.slice none 0 0) (.int .u64 (0:Nat)) (.bool false)) 209):=⟨_,rfl⟩;have CO:wa.heap.size=w.heap.size+1:=by rw[pS];exact agn _ _
 have gq:w1.heap.size=w.heap.size+2:=by rw[gu,agn,CO]
 have nt:w1.heap[w.heap.size+1]?=some (.cells (SC (List.replicate 8 0) (.slice none 0 0) (.int .u64 (0:Nat)) (.bool false)) 209 (0,0)):=by rw[gu,←CO];exact af4 wa _
 have vy:wa.heap[w.heap.size]?=some (.cells (Array.replicate 32 (.int .u8 0)) 168 (0,0)):=by rw[pS];exact af4 w _
 have k9:w1.heap[w.heap.size]?=some (.cells (Array.replicate 32 (.int .u8 0)) 168 (0,0)):=by rw[gu];exact(Below.heap_alloc wa _ _ (by omega)).trans vy
 have BO:Below w.heap.size w wa:=by rw[pS];exact(af5 _ w).alloc (af2 _) _
 have fj:Below w.heap.size w w1:=by rw[gu];exact BO.alloc (by omega) _
 have Vf:Sx (w.heap.size+1) w1 A (B8 b):=fun hn=>by
  obtain⟨bb,o,e,hb,db⟩:=(vq.below fj) hn;exact⟨bb,o,e,by omega,by omega,db⟩
 refine(show w1=_ by rw[gu,pS])▸?_;clear pS gu vy BO;refine(Ir (w.heap.size+1) (w.heap.size+1) (List.replicate 8 0) (by simp) (.slice none 0 0) [] b 0 A c w1 (af2 _) nt (by omega) (Ow.nil_ _ _ _ _) Vf (by omega) (by simpa using(by omega:b.length≤8192)) sF hc).mono ?_;rintro e w2 ⟨rfl,jZ,A2,c2,ez,CE,JT,qo⟩;rw[agJ] at ez JT qo;rw[Nat.zero_add] at qo;have jG:=(jZ.block w.heap.size (by omega)).trans k9;have Sy:(b.drop (64*(b.length/64))).length=b.length%64:=by rw[agD];omega
 rw[←Sy] at qo ez;go_wp2_with fail;refine(J4 (w.heap.size+1) (blk nR b (b.length/64)) (by rw[cq];rfl) A2 c2 (b.drop (64*(b.length/64))) b.length w2 qo JT (by omega) (by omega) ez CE).mono ?_;rw[yQ];rintro e w3 ⟨rfl,py⟩;obtain⟨rr,qS⟩:=ab (nw (nw b));have lZ:rr.length=32:=by rw[qS];exact eU _
 rw[←qS];obtain⟨oc,fD⟩:∃oc,oc=(B8 rr).toArray:=⟨_,rfl⟩;have dO:oc.size=32:=by rw[fD];simp[lZ]
 have cG:Hid ((Tryz.prog.info? 168).map (·.size)=some oc.size):=aa (by rw[dO];kernel_rfl);have iy:Hid ((Array.replicate 32 (Value.int .u8 0)).size=oc.size):=aa (by rw[dO];simp);have fQ:Hid (oc.all (·.oneCell')=true):=aa (by rw[fD];exact all_oneCell_toArray (aG _));have mI:=jZ.size;have nU:=(py.block w.heap.size (by omega)).trans jG;have E6:=(fj.trans (jZ.mono (by omega))).trans (py.mono (by omega));have pA:=aa fD;have Xz:=aa qS;have nV:=aa nU;rw[←fD];clear fD qS lZ dO nU jG k9 qo JT nt Vf vq;go_wp2_with (refine af6 rfl 168 (.tmp 2) (.tmp 6) rfl w.heap.size oc rfl rfl 168 _ nV.out cG.out iy.out fQ.out ?_);refine agf (v:=.agg oc) ?_ rfl ⟨by rw[pA.out,Xz.out],ah E6 (af2 _) _⟩;exact ags rfl _ _ w.heap.size 168 oc (0,0) (.array 32 5) rfl (agd _ _ _ _ _ _ nV.out) (by kernel_rfl) rfl cG.out
def aaD:Value→Nat
 |.slice _ n _=>n
 |_=>0
def vA (m i:Nat):List UInt8:=(List.range i).map fun j=>UInt8.ofNat (m/256^j)
theorem J6 (m i:Nat):vA m (i+1)=vA m i++[UInt8.ofNat (m/256^i)]:=by simp[vA,List.range_succ]
theorem nW (m i:Nat):(vA m i).length=i:=by simp[vA]
theorem NJ (m i j:Nat) (h:j<i):(B8 (vA m i))[j]?=some (.int .u8 ((m/256^j%256:Nat):Int)):=by simp[B8,vA,h]
def vB (m:Nat):Nat→List UInt8
 |0=>[]
 |k+1=>vB m k++[UInt8.ofNat (m/256^(8-1-k))]
theorem J7 (m k:Nat):vB m (k+1)=vB m k++[UInt8.ofNat (m/256^(8-1-k))]:=rfl
theorem E7 (m:Nat):vB m 8=Ah m 8:=by simp[vB,Ah,List.range,List.range.loop]
theorem NK (b:List UInt8) (f:Nat) (hf:f=63-(b.length%64+8)%64):b++128::List.replicate f 0++vB (b.length*8) 8=Ms b:=by
 rw[E7,Ms,fb,←hf];simp
theorem J8 (n k q:Nat) (h:q=n*8/256^k):((q:Int)/256)=((n:Int)*8/256^(k+1)):=by
 have h2:q/256=n*8/256^(k+1):=by rw[h,Nat.div_div_eq_div_mul,←Nat.pow_succ]
 have h3:((q/256:Nat):Int)=((n*8/256^(k+1):Nat):Int):=by rw[h2]
 rw[Int.natCast_ediv,Int.natCast_ediv,Int.natCast_mul,Int.natCast_pow] at h3;exact h3
theorem CP (m k:Nat):(vB m k).length=k:=by
 induction k with
 |zero=>rfl
 |succ k ih=>simp[vB,ih]
theorem NL (A:Option Addr) (c:Nat) (b:List UInt8) (w:World) (hs:Sl w w.heap.size A (B8 b)) (hl:b.length≤2048) (sF:b.length≤c) (hc:c≤maxLen):
 Calls Tryz.prog 199 #[.slice A b.length c,.int .i64 64,.int .i64 8,.bool false] w fun e W'=>∃v,e=.returned v∧Ow W' w.heap.size 5 v (B8 (Ms b))∧Below w.heap.size w W':=by
 have Hl:=aa hl;go_enter Tryz.func199,Tryz.ntmps199;go_wp2_with (first|(at_builtin;refine aq (m:=b.length) (c:=c) (base:=w.heap.size) (xs:=[]) (v:=.slice (some ⟨w.heap.size,0,none⟩) 0 0) (A:=A) (B:=w.heap.size) (news:=B8 b) jf rfl (.tmp 14) (.tmp 15) rfl rfl (Ow.nil_ _ _ _ _) rfl (hs.alloc (af2 _) _) (B8_length _) (aG _) (by have:=Hl.out;simp[maxLen];omega) (by have:=Hl.out;simp;omega) (by simp) ?_;intro v1 w1 jc jd jQ;have aZ:=((af5 _ w).alloc (af2 _) (.cells #[] 5)).grown jd (by simp) (by simp[az]);rw[agJ] at jc;obtain⟨A1,c1,rfl,dW,Ae⟩:=aH jc;clear jd jQ)|(at_builtin;refine aq (m:=1) (c:=1) (base:=w.heap.size) (xs:=B8 b) (v:=.slice A1 b.length c1) (A:=some ⟨w1.heap.size,0,none⟩) (B:=w1.heap.size+1) (news:=[.int .u8 128]) jf rfl (.tmp 17) (.tmp 18) rfl rfl (jc.alloc _) rfl (Sl.one w1 _ _) rfl (by simp;rfl) (by have:=Hl.out;simp[maxLen];omega) (by have:=Hl.out;simp;omega) (by have:=aZ.size;simp;omega) ?_;intro v2 w2 nB lv sM))
 have bt:=(aZ.alloc aZ.size (.cells #[.int .u8 128] 5)).grown lv (by have:=aZ.size;simp;omega) (fun r hr=>(jc.row r hr).1)
 obtain⟨f,hf⟩:∃f,f=63-(b.length%64+8)%64:=⟨_,rfl⟩;go_loopw [9] (fun v wr=>∃z:Nat,z≤f∧Ow wr w.heap.size 5 v (B8 (b++128::List.replicate z 0))∧Below w.heap.size w wr) (fun v _=>b.length+1+f-aaD v)
 case atStart=>exact⟨0,agu _,by simpa [B8] using nB,bt⟩
 case round=>
  obtain⟨z,hz,ho,hb⟩:=hrel;obtain⟨X,hX⟩:∃X,X=b++128::List.replicate z 0:=⟨_,rfl⟩;have hXl:X.length=b.length+1+z:=by rw[hX];simp;omega
  rw[←hX] at ho;obtain⟨Az,cz,rfl,dX,aeU⟩:=aH ho;obtain⟨N,hN⟩:=ab X.length;have Ve:(B8 X).length=N:=by simp[hN]
  have Vg:N≤4096:=by omega
  rw[←hN] at ho dX⊢
  by_cases aL:z<f
  · have J9:¬((N:Int)%64=56):=by omega
    have HN:=aa hN;have HX:=aa hX;have BP:=aa hXl;clear hf hN hX hXl;go_wp2_with (at_builtin;refine aq (m:=1) (c:=1) (base:=w.heap.size) (xs:=B8 X) (v:=.slice Az N cz) (A:=some ⟨wr.heap.size,0,none⟩) (B:=wr.heap.size+1) (news:=[.int .u8 0]) jf rfl (.tmp 28) (.tmp 29) rfl rfl (ho.alloc _) rfl (Sl.one wr _ _) rfl (by simp;rfl) (by rw[Ve];simp[maxLen];omega) (by rw[Ve];omega) (by have:=hb.size;simp;omega) ?_;intro v3 w3 cZ fl j0);rw[dD X (.int .u8 0) 0 rfl,HX.out,agL,agw,←List.replicate_succ'] at cZ;refine⟨⟨z+1,aL,cZ,bE hb (af2 _) ho fl⟩,?_⟩;obtain⟨A3,c3,rfl,_,_⟩:=aH cZ;have:=HN.out;have:=BP.out;simp only[aaD,agc,agm,List.length_replicate];omega
  have J9:(N:Int)%64=56:=by omega
  have Hf:=aa hf;have HN:=aa hN;have HX:=aa hX;clear hf hN hX hXl;have hzf:z=f:=by omega
  go_wp2_with fail;clear J9;obtain⟨wx,hwx⟩:=ab wr;subst hwx;go_loopw [10,11,12] (fun m v i wr=>∃k:Nat,k≤8∧i=.int .i64 k∧m=.int .u64 ((b.length*8/256^k:Nat):Int)∧Ow wr wx.heap.size 5 v (B8 (vA (b.length*8) k))∧Below wx.heap.size wx wr) (fun _ _ i _=>8-(intOf i).toNat)
  case atStart=>
   refine⟨0,agu _,rfl,by simp,Ow.nil_ _ _ _ _,af5 _ _⟩
  case round=>
   obtain⟨k,hk,rfl,rfl,EB,mE⟩:=hrel;obtain⟨Al,cl,rfl,db,NM⟩:=aH EB;rw[nW] at EB db⊢;obtain⟨q,hq⟩:∃q,q=b.length*8/256^k:=⟨_,rfl⟩;have SE:q≤16384:=by rw[hq];exact agx (Nat.div_le_self _ _) (by omega)
   rw[←hq]
   by_cases aL:k<8
   · have Hq:=aa hq
     have hll:(B8 (vA (b.length*8) k)).length=k:=by simp[nW]
     obtain⟨L,hL⟩:=ab (vA (b.length*8) k);rw[←hL] at EB hll;have HL:=aa hL;have Hll:=aa hll;clear hq hL hll;go_wp2_with (at_builtin;refine aq (m:=1) (c:=1) (base:=wx.heap.size) (xs:=B8 L) (v:=.slice Al k cl) (A:=some ⟨wr.heap.size,0,none⟩) (B:=wr.heap.size+1) (news:=[.int .u8 ((q:Int)%256)]) jf rfl (.tmp 40) (.tmp 44) rfl rfl (EB.alloc _) rfl (Sl.one wr _ _) rfl (by simp;rfl) (by rw[Hll.out];simp[maxLen];omega) (by rw[Hll.out];omega) (by have:=mE.size;simp;omega) ?_;intro v3 w3 cZ fl j0);rw[dD L _ (UInt8.ofNat q) (by simp),HL.out,Hq.out,←J6] at cZ;refine⟨⟨k+1,aL,rfl,?_,cZ,bE mE (af2 _) EB fl⟩,by simp[intOf];omega⟩;rw[J8 b.length k q Hq.out,Int.natCast_ediv,Int.natCast_mul,Int.natCast_pow];rfl
   have Vh:k=8:=by omega
   have Hk8:=aa Vh;have aeV:8≤k:=by omega
   clear Vh;go_wp2_with fail;obtain⟨k2,Ri⟩:=ab k;subst Ri;obtain⟨wy,hwy⟩:=ab wr;subst hwy
   obtain⟨gl,CQ,rfl,pT,uT,aeW,jO⟩:∃gl CQ,Al=some ⟨gl,0,none⟩∧wx.heap.size≤gl∧wy.heap[gl]?=some (.cells CQ 5 (0,0))∧cl≤CQ.size∧CQ.toList.take 8=B8 (vA (b.length*8) 8):=by
    rw[Hk8.out] at EB db;obtain⟨A',c',e,h1,h2,h3⟩:=EB;injection e with e1 e2 e3;obtain⟨g,cur,e4,h4,h5,h6,h7⟩:=h3 (by omega);rw[B8_length,nW] at h7;exact⟨g,cur,by rw[e1,e4],h4,h5,by omega,h7⟩
   have aD:∀j,j<8→CQ[j]?=some (.int .u8 ((b.length*8/256^j%256:Nat):Int)):=fun j hj=>by
    have h1:(CQ.toList.take 8)[j]?=_:=(congrArg (fun l=>l[j]?) jO).trans (NJ (b.length*8) 8 j hj);rw[List.getElem?_take,if_pos hj] at h1;simpa using h1
   have hoy:=ho.below mE (af2 _);have EH:=hb.trans (mE.mono hb.size);have hny:∀r,az (.slice Az N cz)=some r→r≠gl:=fun r hr=>by have:=(ho.row r hr).2;omega
   have Vi:=aa uT;have Hny:=aa hny;have jk:=aa aD;clear hny uT aD jO hq;go_loopw [9,13] (fun v i wr=>∃k:Nat,k≤8∧i=.int .i64 k∧Ow wr w.heap.size 5 v (B8 (X++vB (b.length*8) k))∧Below w.heap.size w wr∧Hid (∀r,az v=some r→r≠gl)∧Hid (wr.heap[gl]?=some (.cells CQ 5 (0,0)))) (fun _ i _=>8-(intOf i).toNat)
   case atStart=>exact⟨0,agu _,rfl,by simpa [vB] using hoy,EH,Hny,Vi⟩
   case round=>
    obtain⟨k,hk,rfl,cZ,bd,Hr3,XA⟩:=hrel
    by_cases aL:k<8
    · obtain⟨Y,hY⟩:∃Y,Y=X++vB (b.length*8) k:=⟨_,rfl⟩
      rw[←hY] at cZ;obtain⟨Ay,cy,rfl,hcy,acX⟩:=aH cZ;obtain⟨M,hM⟩:=ab Y.length;rw[←hM] at cZ hcy Hr3⊢;have hYl:Y.length=N+k:=by rw[hY,agc,CP,←HN.out]
      have SF:M≤4200:=by omega
      have hYb:(B8 Y).length=M:=by rw[B8_length,hM]
      obtain⟨j,hj⟩:∃j,j=7-k:=⟨_,rfl⟩;have ej:(7:Int)-(k:Int)=(j:Int):=by omega
      obtain⟨y,hy⟩:∃y,y=b.length*8/256^j%256:=⟨_,rfl⟩;have cj:wr.cell? ⟨gl,j,none⟩=some (.int .u8 (y:Int)):=by rw[agb wr gl j _ _ (0,0) XA.out,jk.out j (by omega),hy]
      have XC:gl<wr.heap.size:=(af3.1 XA.out).1;have Rn:j<k2:=by omega
      have Hj:=aa hj;have Hy:=aa hy;have HY:=aa hY;have HYb:=aa hYb;clear hj hy hY hM hYb;go_wp2_with (at_builtin;refine aq (m:=1) (c:=1) (base:=w.heap.size) (xs:=B8 Y) (v:=.slice Ay M cy) (A:=some ⟨wr.heap.size,0,none⟩) (B:=wr.heap.size+1) (news:=[.int .u8 (y:Int)]) jf rfl (.tmp 61) (.tmp 69) rfl rfl (cZ.alloc _) rfl (Sl.one wr _ _) rfl (by simp;rfl) (by rw[HYb.out];simp[maxLen];omega) (by rw[HYb.out];omega) (by have:=bd.size;simp;omega) ?_;intro v4 w4 lQ xY qm);rw[dD Y _ (UInt8.ofNat (b.length*8/256^(8-1-k))) (by rw[Hy.out,Hj.out];simp),HY.out,agL,←J7] at lQ;have dn:=bE bd (af2 _) cZ xY;have yP:(wr.alloc (.cells #[.int .u8 (y:Int)] 5)).heap.size=wr.heap.size+1:=agn _ _
      have Hr4:Hid (∀r,az v4=some r→r≠gl):=aa fun r hr=>by
       rcases qm with h|h
       · exact Hr3.out r (h▸hr)
       rw[h] at hr;injection hr with hr;omega
      have Hg4:Hid (w4.heap[gl]?=some (.cells CQ 5 (0,0))):=aa (by
       rw[xY.block gl (by omega) (fun e=>Hr3.out gl e.symm rfl),Below.heap_alloc wr _ gl XC];exact XA.out)
      refine⟨⟨k+1,aL,rfl,lQ,dn,Hr4,Hg4⟩,by simp[intOf];omega⟩
    obtain rfl:k=8:=by omega
    go_wp2_with fail;go_ret;rw[HX.out,hzf,NK b f Hf.out] at cZ;exact⟨_,rfl,cZ,bd⟩
end Go.Proofs.YtcjioogololnoaaGreatDoor
