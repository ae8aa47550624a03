/- Whoever walks down with the secret signs what whoever walks down without it verifies, and the text of either walks the same way (StrongboxKeyed). No condition. -/
import Derived.Test.YtnlkdheaohocnaaGreatDoorU1
import Derived.Test.YtnlkdheaohocnaaGreatDoorU17
import Derived.Laws.IdiomCopy
import Derived.Laws.Bits64b
set_option maxRecDepth 1000000
set_option maxHeartbeats 16000000
set_option linter.unusedVariables false
set_option linter.unusedSimpArgs false
namespace Go.Proofs.YtnlkdheaohocnaaGreatDoor
open Go.RowKit Go.Shelf
theorem LJ (g o m:Nat) (d:List Nat) (x y:Nat) (hx:x<2^256) (hy:y<2^256) (w:World) (hF:FieldAt w g o m d)
 (QK:∀(T:List Nat) (W:World),T.length=8→(∀t∈T,t<18446744073709551616)→FieldAt W g o m d→Calls Tryz.prog 85 #[.pointer (some ⟨g,o,none⟩),.agg (gq T).toArray] W fun e W'=>e=.returned (.agg (ax (wv T%m)))∧Below W.heap.size W W'):
 Calls Tryz.prog 38 #[.pointer (some ⟨g,o,none⟩),.agg (ax x),.agg (ax y)] w fun e W'=>e=.returned (.agg (ax (x*y%m)))∧Below w.heap.size w W':=by
 have pG:=hF.1;have Yi:=ab QK;clear QK;obtain⟨R,hR⟩:∃R,R=x*y%m:=⟨_,rfl⟩;rw[←hR];have HR:=ab hR;clear hR;unfold ax;go_enter Tryz.func38,Tryz.ntmps38;go_wp2_with fail;have h4:=l6 w (.cells (ax x) 67) (.cells (ax y) 67) (.cells (ax 0) 67) (.cells (gq (List.replicate 8 0)).toArray 133);obtain⟨W0,bD⟩:∃W0,W0=((((w.alloc (.cells (ax x) 67)).alloc (.cells (ax y) 67)).alloc (.cells (ax 0) 67)).alloc (.cells (gq (List.replicate 8 0)).toArray 133)):=⟨_,rfl⟩;have de:Below w.heap.size w W0:=by rw[bD];exact((((adl _ w).alloc (adi _) _).alloc (by simp) _).alloc (by simp;omega) _).alloc (by simp;omega) _
 refine(show W0=_ from bD)▸?_;rw[←bD] at h4;obtain⟨gX,gY,gO,gT⟩:=h4;obtain⟨B,hB⟩:=ae w.heap.size;rw[←hB] at gX gY gO gT⊢;have HB:=ab hB;clear bD hB gX
 go_loopw [17] (fun iv wr=>∃(i:Nat) (T:List Nat),i≤4∧iv=.int .i64 i∧Hid (T.length=8∧(∀t∈T,t<18446744073709551616)∧(∀j,i+4≤j→j<8→T[j]?=some 0)∧wv T=wv ((bC x).take i)*y)∧
  wr.heap[B+1]?=some (.cells (ax y) 67 (0,0))∧wr.heap[B+1+1]?=some (.cells (ax 0) 67 (0,0))∧wr.heap[B+1+1+1]?=some (.cells (gq T).toArray 133 (0,0))∧Below w.heap.size w wr) (fun iv _=>4-(intOf iv).toNat)
 case atStart=>exact⟨0,List.replicate 8 0,by omega,rfl,ab ⟨rfl,by simp,fun j _ hj=>by rw[List.getElem?_replicate,if_pos hj],by rw[Lh];simp[wv]⟩,gY,gO,gT,de⟩
 case round=>
  clear gY gO gT de;obtain⟨i,T,hi,rfl,HT,gY,gO,gT,hb⟩:=hrel
  by_cases aV:i<4
  · obtain⟨a,ha⟩:=ae (dw x i)
    have LK:a<18446744073709551616:=by rw[ha];exact jP _ _
    have tX:=fun ww=>lF x i aV ww
    simp only[←ha] at tX;obtain⟨y0,y1,y2,y3⟩:=fY gY;have Ha:=ab ha;have GY:=ab gY;have GO:=ab gO;have GT:=ab gT;obtain⟨S,hS⟩:=ae (wv T);have HS:=ab hS;have HS6:Hid (S=wv ((bC x).take i)*y):=ab (by rw[hS];exact HT.out.2.2.2);clear ha hS;go_wp2_with fail;clear y0 y1 y2 y3 tX;rw[show decide ((i:Int)<4)=true from adA (by omega)]
    go_loopw [10,22] (fun cv kv wk=>∃(k c:Nat) (U:List Nat),k≤4∧kv=.int .i64 k∧cv=.int .u64 c∧c<18446744073709551616∧Hid (U.length=8∧(∀t∈U,t<18446744073709551616)∧(∀j,i+4≤j→j<8→U[j]?=some 0)∧wv U+c*2^(64*(i+k))=S+a*wv ((bC y).take k)*2^(64*i))∧
     wk.heap[B+1]?=some (.cells (ax y) 67 (0,0))∧wk.heap[B+1+1]?=some (.cells (ax 0) 67 (0,0))∧wk.heap[B+1+1+1]?=some (.cells (gq U).toArray 133 (0,0))∧Below w.heap.size w wk) (fun _ kv _=>4-(intOf kv).toNat)
    case atStart=>exact⟨0,0,T,by omega,rfl,rfl,by omega,ab ⟨HT.out.1,HT.out.2.1,HT.out.2.2.1,by rw[HS.out];simp[wv]⟩,gY,gO,gT,hb⟩
    case round=>
     clear gY gO gT hb HT;obtain⟨k,c,U,hk,rfl,rfl,hc,HU,gY,gO,gT,hb⟩:=hrel
     by_cases S6:k<4
     · obtain⟨b,iG⟩:=ae (dw y k)
       have LL:b<18446744073709551616:=by rw[iG];exact jP _ _
       have tX:=fun ww=>lF y k S6 ww
       simp only[←iG] at tX;have Hbb:=ab iG;obtain⟨j,hj⟩:∃j,j=i+k:=⟨_,rfl⟩;have NT:j<8:=by omega
       have VI:(i:Int)+(k:Int)=(j:Int):=by omega
       have LM:j<U.length:=by rw[HU.out.1];exact NT
       have cT:=eG gT (k:=j) LM;have zT:=dQ gT j;have S7:U[j]=U.getD j 0:=by simp[LM]
       obtain⟨t,ht⟩:∃t:Nat,t=U.getD j 0:=⟨_,rfl⟩;have G6:t<18446744073709551616:=by rw[ht,←S7];exact HU.out.2.1 _ (List.getElem_mem _)
       rw[S7,←ht] at cT;obtain⟨m1,m2,m3⟩:=mac a b c t LK LL hc G6;have D8:=fun ww=>Tryz.bits_Mul64 a b LK LL ww
       obtain⟨hi,QL⟩:∃hi,hi=a*b/18446744073709551616:=⟨_,rfl⟩;obtain⟨lo,NU⟩:∃lo,lo=a*b%18446744073709551616:=⟨_,rfl⟩;rw[←QL,←NU] at m1 m2 m3;simp only[←QL,←NU] at D8;have FA:=fun ww=>kA lo c ww
       obtain⟨l1,lE⟩:∃l1,l1=(lo+c)%18446744073709551616:=⟨_,rfl⟩;obtain⟨c1,oT⟩:∃c1,c1=(lo+c)/18446744073709551616:=⟨_,rfl⟩;rw[←lE,←oT] at m2 m3;rw[←oT] at m1;simp only[←lE,←oT] at FA;have yr:=fun ww=>kA t l1 ww
       obtain⟨t1,zS⟩:∃t1,t1=(t+l1)%18446744073709551616:=⟨_,rfl⟩;obtain⟨c2,lL⟩:∃c2,c2=(t+l1)/18446744073709551616:=⟨_,rfl⟩;rw[←lL] at m2;rw[←zS,←lL] at m3;simp only[←zS,←lL] at yr;have Bk:t1<18446744073709551616:=by rw[zS];exact Nat.mod_lt _ (by decide)
       have S8:=ab D8;have M3:=ab m3;have Hj:=ab hj;have Ht:=ab ht;have GY:=ab gY;have GO:=ab gO;have GT:=ab gT;clear iG hj ht QL NU lE oT zS lL m3 D8 gY gO gT LM S7;go_wp2_with (go_at_call 83;refine(S8.out _).mono ?_;rintro e w' ⟨rfl,LN⟩;rw[LN];clear LN);refine⟨⟨k+1,hi+c1+c2,U.set j t1,by omega,by go_num,by go_num,m2,ab ⟨by simpa using HU.out.1,fun q hq=>?_,fun q hq R2=>?_,?_⟩,fW GY.out (by omega),fW GO.out (by omega),vU GT.out,hb.setCell (p:=⟨B+1+1+1,j,none⟩) (by show w.heap.size≤B+1+1+1;have:=HB.out;omega) _⟩,by simp[intOf];omega⟩
       · rcases List.mem_or_eq_of_mem_set hq with h|h
         · exact HU.out.2.1 q h
         exact h▸Bk
       · rw[List.getElem?_set_ne (by have:=Hj.out;omega)]
         exact HU.out.2.2.1 q hq R2
       have hjj:=Hj.out;have htt:=Ht.out;have hUl:=HU.out.1;subst hjj;refine ux U (bC y) i k a c _ t1 S (by omega) S6 ?_ HU.out.2.2.2;have e1:U[i+k]'(by omega)=t:=by rw[htt];simp[show i+k<U.length by omega]
       have e2:(bC y)[k]'S6=b:=by
        rw[Hbb.out];rcases (show k=0∨k=1∨k=2∨k=3 by omega) with rfl|rfl|rfl|rfl<;>rfl
       rw[e1,e2];exact M3.out
     obtain rfl:k=4:=by omega
     obtain⟨q,hq⟩:∃q,q=i+4:=⟨_,rfl⟩;have R2:q<8:=by omega
     have hqI:(i:Int)+4=(q:Int):=by omega
     have cT:=eG gT (k:=q) (by rw[HU.out.1];exact R2);have zT:=dQ gT q;have hU0:U[q]?=some 0:=HU.out.2.2.1 q (by omega) R2;have Hq:=ab hq;have S9:=ab hU0;have GY:=ab gY;have GO:=ab gO;have GT:=ab gT;clear hq hU0 gY gO gT;go_wp2_with fail;refine⟨⟨i+1,U.set q c,by omega,by go_num,ab ⟨by simpa using HU.out.1,fun r hr=>?_,fun r hr Vx=>?_,?_⟩,fW GY.out (by omega),fW GO.out (by omega),vU GT.out,hb.setCell (p:=⟨B+1+1+1,q,none⟩) (by show w.heap.size≤B+1+1+1;have:=HB.out;omega) _⟩,by simp[intOf];omega⟩
     · rcases List.mem_or_eq_of_mem_set hr with h|h
       · exact HU.out.2.1 r h
       exact h▸hc
     · rw[List.getElem?_set_ne (by have:=Hq.out;omega)]
       exact HU.out.2.2.1 r (by omega) Vx
     have h1:=HU.out.2.2.2;have VJ:q<U.length:=by rw[HU.out.1];exact R2
     have h2:=DY U q VJ c;have h3:U[q]=0:=by have:=S9.out;rw[adp VJ] at this;exact Option.some.inj this
     rw[h3] at h2;have hqq:=Hq.out;rw[←hqq,show (bC y).take 4=bC y from rfl,iN y hy] at h1
     have h5:wv ((bC x).take (i+1))=wv ((bC x).take i)+a*2^(64*i):=by
      rw[jX (bC x) i aV];congr 2;rw[Ha.out];rcases (show i=0∨i=1∨i=2∨i=3 by omega) with rfl|rfl|rfl|rfl<;>rfl
     rw[h5,Nat.add_mul,Nat.mul_right_comm];have h6:=HS6.out;omega
  obtain rfl:i=4:=by omega
  have hTx:wv T=x*y:=by rw[HT.out.2.2.2,show (bC x).take 4=bC x from rfl,iN x hx]
  have qi:=Yi.out T wr HT.out.1 HT.out.2.1 (hF.below hb pG);rw[hTx,←HR.out] at qi;obtain⟨cs,eA⟩:∃cs,cs=(gq T).toArray:=⟨_,rfl⟩;have lZ:cs.size=8:=by rw[eA,List.size_toArray,U64_length,HT.out.1]
  have fe:Hid ((Tryz.prog.info? 133).map (·.size)=some cs.size):=ab (by rw[lZ];kernel_rfl);rw[←eA] at gT qi;have qf:=ab (show (Tryz.prog.info? 67).map (·.size)=some (ax R).size by kernel_rfl);have zV:=ab qi;have GT:=ab gT;have GO:=ab gO;have NV:=ab (adg.1 gO).1;clear eA lZ gT gO gY hTx qi;go_wp2_with (refine adw rfl 133 (.tmp 7) rfl (B+1+1+1) rfl 133 cs (0,0) _ GT.out Tryz.underlying133 rfl fe.out ?_);refine zV.out.mono ?_;rintro e w2 ⟨rfl,bS⟩;have zU:=ab ((bS.block (B+1+1) NV.out).trans GO.out);have lN:=hb.trans (bS.mono hb.size);clear bS;go_wp2_with (refine ado rfl 67 (.tmp 6) (.tmp 66) rfl (B+1+1) (ax R) rfl rfl 67 _ zU.out qf.out rfl (aK _) ?_);refine adm (v:=.agg (ax R)) ?_ rfl ⟨rfl,au lN (by have:=HB.out;omega) _⟩;exact adr rfl _ _ (B+1+1) 67 (ax R) (0,0) _ rfl (adt _ _ _ _ _ _ zU.out) Tryz.underlying67 rfl qf.out
def Ta (w:World) (g:Nat):Nat:=match w.heap[g]? with
 |some (.cells cs _ _)=>wv (cs.toList.map fun v=>(intOf v).toNat)
 |_=>0
theorem FQ {w:World} {g t:Nat} {T:List Nat} {fr:Nat×Nat} (h:w.heap[g]?=some (.cells (gq T).toArray t fr)):Ta w g=wv T:=by
 unfold Ta;rw[h];simp only[gq,List.map_map];congr 1;refine(List.map_congr_left (fun x _=>?_)).trans (List.map_id T);simp[Function.comp,intOf]
theorem Bl (d0 d1 d2:Nat) (k:Nat) (hk:k<3) (w:World):(Instr.index 70 (.agg #[.int .u64 (d0:Int),.int .u64 (d1:Int),.int .u64 (d2:Int)]) (.int .i64 (k:Int))).run Tryz.prog w=.ok (.int .u64 (([d0,d1,d2].getD k 0:Nat):Int)) w:=by
 have eD:(sizeOf 65).run Tryz.prog w=.ok 1 w:=by
  have hi:(Tryz.prog.info? 65).map (·.size)=some 1:=by kernel_rfl
  cases hq:Tryz.prog.info? 65 with
  |none=>simp[hq] at hi
  |some i=>simp[hq] at hi;simp[sizeOf,typeInfo,hq,hi]
 have RE:(isAgg 65).run Tryz.prog w=.ok false w:=by
  unfold isAgg;rw[Sem.run_bind,run_underlying Tryz.underlying65 w];rfl
 have hn:=Tryz.underlying70;rcases (show k=0∨k=1∨k=2 by omega) with rfl|rfl|rfl<;>simp[Instr.index,asIntOf,run_underlying hn,eD,part,RE,go_sem]
theorem LO (T:List Nat) (hl:T.length=8) (h:∀t∈T,t<18446744073709551616):∃L H,L<2^256∧H<2^256∧T=bC L++bC H∧wv T=L+2^256*H:=by
 have e:=(List.take_append_drop 4 T).symm;have l1:(T.take 4).length=4:=by rw[adq];omega
 have l2:(T.drop 4).length=4:=by rw[adH];omega
 have h1:=p8 _ l1 (fun x hx=>h x (List.mem_of_mem_take hx));have h2:=p8 _ l2 (fun x hx=>h x (List.mem_of_mem_drop hx));have b1:=xq (T.take 4) (fun x hx=>h x (List.mem_of_mem_take hx));have b2:=xq (T.drop 4) (fun x hx=>h x (List.mem_of_mem_drop hx));rw[l1] at b1;rw[l2] at b2;refine⟨wv (T.take 4),wv (T.drop 4),b1,b2,by rw[h1,h2];exact e,?_⟩
 conv=>lhs;rw[e]
 rw[ry,l1]
theorem LP (a b c d:Nat):a ||| b ||| c ||| d=0↔a=0∧b=0∧c=0∧d=0:=by
 rw[Nat.or_eq_zero_iff,Nat.or_eq_zero_iff,Nat.or_eq_zero_iff];omega
theorem Iw (H:Nat) (h:H<2^256):(dw H 0=0∧dw H 1=0∧dw H 2=0∧dw H 3=0)↔H=0:=by
 constructor
 · rintro⟨h0,h1,h2,h3⟩
   have:=iN H h;simp only[bC,h0,h1,h2,h3,wv] at this;omega
 rintro rfl;exact⟨rfl,rfl,rfl,rfl⟩
theorem Bm (T:List Nat) (h:T.length=3):∃a b c,T=[a,b,c]:=by
 match T,h with
 |[a,b,c],_=>exact⟨a,b,c,rfl⟩
set_option exponentiation.threshold 1000 in
theorem Bo (S c q V:Nat) (h:S+c*2^(64*q)=V) (hV:V<2^448) (hc:c≠0):q<7:=by
 refine Nat.lt_of_not_le (fun hq=>?_);have h1:2^448≤2^(64*q):=Nat.pow_le_pow_right (by omega) (by omega);have h2:2^(64*q)≤c*2^(64*q):=Nat.le_mul_of_pos_left _ (by omega);omega
set_option exponentiation.threshold 1000 in
theorem D9 (L D:Nat) (Hs:List Nat) (hL:L<2^256) (hD:D<2^130) (hl:Hs.length≤4) (hw:∀x∈Hs,x<18446744073709551616):L+wv Hs*D<2^448:=by
 have h1:=xq Hs hw;have h2:2^(64*Hs.length)≤2^256:=Nat.pow_le_pow_right (by omega) (by omega);have h3:wv Hs*D≤2^256*2^130:=Nat.mul_le_mul (by omega) (by omega);omega
theorem yK (H i a:Nat) (hi:i<4) (ha:a=dw H i):wv ((bC H).take (i+1))=wv ((bC H).take i)+a*2^(64*i):=by
 rw[jX (bC H) i hi];congr 2;rw[ha];rcases (show i=0∨i=1∨i=2∨i=3 by omega) with rfl|rfl|rfl|rfl<;>rfl
theorem qj {P:Program} (w:World) (b o:Nat) (ty:TypeId) (v c:Value) (hc:w.cell? ⟨b,o,none⟩=some c) (hz:w.frozen? ⟨b,o,none⟩=false) (hi:(P.info? ty).map (·.size)=some 1) (h1:v.oneCell'=true):
 (storeVar ty ⟨b,o,none⟩ v).run P w=.ok () (w.setCell ⟨b,o,none⟩ v):=by
 have:=run_storeCells_cells (P:=P) b o [v] 0 w (fun j hj=>by(have h0:j=0:=by simpa using hj);subst h0;simp[hc]) (fun j hj=>by(have h0:j=0:=by simpa using hj);subst h0;simpa using hz) (fun x hx=>by simp at hx;subst hx;exact h1);have eA:v.cells=#[v]:=by cases v<;>first|rfl|cases h1
 cases hq:P.info? ty with
 |none=>simp[hq] at hi
 |some i=>
  have hs:i.size=1:=by simpa [hq] using hi
  simp[storeVar,sizeOf,typeInfo,hq,eA,hs,this,World.setCells]
theorem fO {P:Program} {ops:Array Oper} {rest:List Oper} {o:Oper} {a:Act} {w:World} {Q:Exit→Act→World→Prop} (lQ:o.guard=none) (ty:TypeId) (x y:Operand) (ho:o.op=.store ty x y) (hd:o.dst=none)
 (g k t v:Nat) (T:List Nat) (hx:a.eval x=.pointer (some ⟨g,k,none⟩)) (hy:a.eval y=.int .u64 (v:Int)) (hg:w.heap[g]?=some (.cells (gq T).toArray t (0,0))) (hk:k<T.length) (hi:(P.info? ty).map (·.size)=some 1)
 (h:∀w',w'.heap[g]?=some (.cells (gq (T.set k v)).toArray t (0,0))→(∀q ob,q≠g→w.heap[q]?=some ob→w'.heap[q]?=some ob)→(∀n w0,n≤g→Below n w0 w→Below n w0 w')→wpList P ops Q rest a w'):wpList P ops Q (o::rest) a w:=
 wpList_plain lQ fun _ hK=>by
  unfold Oper.wp execOp;simp only[ho,hx,hy,Instr.storeAt,Instr.sureAddr,Sem.run_bind,Sem.run_pure,Result.andThen_ok,qj w g k ty (.int .u64 (v:Int)) _ (eG hg hk) (dQ hg k) hi rfl];refine hK _ _ ?_;rw[hd];exact h _ (vU hg) (fun q ob hq VK=>fW VK hq) (fun n w0 hn hb=>hb.setCell (p:=⟨g,k,none⟩) hn _)
set_option exponentiation.threshold 1000 in
theorem Ix (g o m:Nat) (d:List Nat) (hd:om m d) (hm:m<2^256) (V:List Nat) (hV:V.length=8) (Yj:∀t∈V,t<18446744073709551616) (w:World) (hF:FieldAt w g o m d):
 Calls Tryz.prog 85 #[.pointer (some ⟨g,o,none⟩),.agg (gq V).toArray] w fun e W'=>e=.returned (.agg (ax (wv V%m)))∧Below w.heap.size w W':=by
 have pG:=hF.1;obtain⟨d0,d1,d2,rfl⟩:=Bm d hd.1;obtain⟨R,hR⟩:∃R,R=wv V%m:=⟨_,rfl⟩;rw[←hR];have HR:=ab hR;obtain⟨cs,eA⟩:∃cs,cs=(gq V).toArray:=⟨_,rfl⟩;rw[←eA];have lZ:cs.size=8:=by rw[eA,List.size_toArray,U64_length,hV]
 have DF:=ab eA;have HVl:=ab hV;have abb:=ab Yj;have Hd:=ab hd;have Hm:=ab hm;clear hm;clear hR eA hV Yj hd;go_enter Tryz.func85,Tryz.ntmps85;go_wp2_with (refine wpList_boxTo rfl 133 (.tmp 1) rfl _ rfl w.heap.size rfl cs rfl ?_);have h2:=jm w (.cells cs 133) (.cells (ax 0) 67);obtain⟨W0,bD⟩:∃W0,W0=(w.alloc (.cells cs 133)).alloc (.cells (ax 0) 67):=⟨_,rfl⟩;have de:Below w.heap.size w W0:=by rw[bD];exact((adl _ w).alloc (adi _) _).alloc (by simp) _
 refine(show W0=_ from bD)▸?_;rw[←bD] at h2;obtain⟨gT,gO⟩:=h2;rw[DF.out] at gT;obtain⟨B,hB⟩:=ae w.heap.size;rw[←hB] at gT gO⊢;have HB:=ab hB;clear bD hB lZ;go_loopw [26] (fun _ wr=>∃T:List Nat,Hid (T.length=8∧(∀t∈T,t<18446744073709551616)∧wv T%m=R)∧wr.heap[B]?=some (.cells (gq T).toArray 133 (0,0))∧wr.heap[B+1]?=some (.cells (ax 0) 67 (0,0))∧Below w.heap.size w wr) (fun _ wr=>Ta wr B)
 case atStart=>exact⟨V,ab ⟨HVl.out,abb.out,HR.out.symm⟩,gT,gO,de⟩
 case round=>
  clear gT gO de;obtain⟨T,HT,gT,gO,hb⟩:=hrel;obtain⟨L,H,hL,hH,Yk,Yl⟩:=LO T HT.out.1 HT.out.2.1;have bG:=FQ gT;rw[Yk] at gT;have e4:=eG gT (k:=4) (by simp[bC]);have e5:=eG gT (k:=5) (by simp[bC]);have e6:=eG gT (k:=6) (by simp[bC]);have e7:=eG gT (k:=7) (by simp[bC]);have c4:wr.cell? ⟨B,4,none⟩=some (.int .u64 (dw H 0:Nat)):=e4;have c5:wr.cell? ⟨B,5,none⟩=some (.int .u64 (dw H 1:Nat)):=e5;have c6:wr.cell? ⟨B,6,none⟩=some (.int .u64 (dw H 2:Nat)):=e6;have c7:wr.cell? ⟨B,7,none⟩=some (.int .u64 (dw H 3:Nat)):=e7;have z4:=dQ gT 4;have z5:=dQ gT 5;have z6:=dQ gT 6;have z7:=dQ gT 7;have pf:=u64_or_nat (dw H 0) (dw H 1) (jP _ _) (jP _ _);have n1:dw H 0 ||| dw H 1<18446744073709551616:=Nat.or_lt_two_pow (n:=64) (jP _ _) (jP _ _);have oU:=u64_or_nat (dw H 0 ||| dw H 1) (dw H 2) n1 (jP _ _);have n2:dw H 0 ||| dw H 1 ||| dw H 2<18446744073709551616:=Nat.or_lt_two_pow (n:=64) n1 (jP _ _);have iW:=u64_or_nat (dw H 0 ||| dw H 1 ||| dw H 2) (dw H 3) n2 (jP _ _);obtain⟨N,hN⟩:∃N,N=dw H 0 ||| dw H 1 ||| dw H 2 ||| dw H 3:=⟨_,rfl⟩;rw[←hN] at iW;have yF:N=0↔H=0:=by rw[hN,LP,Iw H hH]
  have HTv:=ab Yl;have ju:=ab bG;have GT:=ab gT;have GO:=ab gO;clear e4 e5 e6 e7 n1 n2 hN Yl Yk bG gT gO
  by_cases h0:H=0
  · have hNz:=yF.2 h0
    subst hNz;clear yF;have Iy:=hF.below hb pG;have c0:wr.cell? ⟨B,0,none⟩=some (.int .u64 (dw L 0:Nat)):=eG GT.out (k:=0) (by simp[bC]);have c1:wr.cell? ⟨B,1,none⟩=some (.int .u64 (dw L 1:Nat)):=eG GT.out (k:=1) (by simp[bC]);have c2:wr.cell? ⟨B,2,none⟩=some (.int .u64 (dw L 2:Nat)):=eG GT.out (k:=2) (by simp[bC]);have c3:wr.cell? ⟨B,3,none⟩=some (.int .u64 (dw L 3:Nat)):=eG GT.out (k:=3) (by simp[bC]);have qf:=ab (show (Tryz.prog.info? 67).map (·.size)=some (ax R).size by kernel_rfl);have NV:=ab (adg.1 GO.out).1
    have HLR:Hid ((if L<m then L else L-m)=R):=ab (by
     rw[Bi m _ L Hd.out.2.2.1 Hd.out.2.2.2.1 hL,←HT.out.2.2,HTv.out,h0,Nat.mul_zero,Nat.add_zero])
    have p7:=ab (yJ g o m [d0,d1,d2] L hL Hm.out wr Iy);rw[HLR.out] at p7;clear Iy;go_wp2_with fail;refine p7.out.mono ?_;rintro e w2 ⟨rfl,bS⟩;have zU:=ab ((bS.block (B+1) NV.out).trans GO.out);have lN:=hb.trans (bS.mono hb.size);clear bS p7;go_wp2_with (refine ado rfl 67 (.tmp 4) (.tmp 113) rfl (B+1) (ax R) rfl rfl 67 _ zU.out qf.out rfl (aK _) ?_);refine adm (v:=.agg (ax R)) ?_ rfl ⟨rfl,au lN (by have:=HB.out;omega) _⟩;exact adr rfl _ _ (B+1) 67 (ax R) (0,0) _ rfl (adt _ _ _ _ _ _ zU.out) Tryz.underlying67 rfl qf.out
  have hNz:¬((N:Int)=0):=by have:=fun h=>h0 (yF.1 h);omega
  have Hh0:=ab (Nat.pos_of_ne_zero h0);clear yF h0;have yx:w.heap.size≤B:=by have:=HB.out;omega
  have XV:B+1≠B:=by omega
  go_wp2_with (first|(refine ado rfl 67 (.tmp 5) (.tmp 35) rfl wr.heap.size (ax H) rfl rfl 67 _ (adk wr _) (by kernel_rfl) rfl (aK _) ?_;rw[adJ];obtain⟨W1,sW⟩:=ae (wr.alloc (.cells (ax H) 67));rw[←sW];obtain⟨gh,xo⟩:=ae wr.heap.size;rw[←xo];have gT1:W1.heap[B]?=some (.cells (gq (bC L++bC H)).toArray 133 (0,0)):=(by rw[sW];exact dU GT.out);have OT:W1.heap[B+1]?=some (.cells (ax 0) 67 (0,0)):=(by rw[sW];exact dU GO.out);have Xp:W1.heap[gh]?=some (.cells #[.int .u64 (dw H 0:Nat),.int .u64 (dw H 1:Nat),.int .u64 (dw H 2:Nat),.int .u64 (dw H 3:Nat)] 67 (0,0)):=(by rw[sW,xo];exact adk wr _);have rl:gh≠B:=(by have:=(adg.1 GO.out).1;rw[xo];omega);have bH:Below w.heap.size w W1:=(by rw[sW];exact hb.alloc hb.size _);clear sW xo c4 c5 c6 c7 z4 z5 z6 z7 hb)|(refine fO rfl 65 (.tmp 36) (.const (.int .u64 0)) rfl rfl B 4 133 0 (bC L++bC H) rfl rfl gT1 (by simp[bC]) (by kernel_rfl) ?_;intro W2 gT2 oU Ym;have Tb:=oU _ _ XV OT;have Xq:=oU _ _ rl Xp;have bS:=Ym _ _ yx bH;clear oU Ym)|(refine fO rfl 65 (.tmp 37) (.const (.int .u64 0)) rfl rfl B 5 133 0 _ rfl rfl gT2 (by simp[bC]) (by kernel_rfl) ?_;intro W3 Yn iW Yo;have Dd:=iW _ _ XV Tb;have gH3:=iW _ _ rl Xq;have b5:=Yo _ _ yx bS;clear iW Yo)|(refine fO rfl 65 (.tmp 38) (.const (.int .u64 0)) rfl rfl B 6 133 0 _ rfl rfl Yn (by simp[bC]) (by kernel_rfl) ?_;intro W4 gT4 rK Yp;have Yq:=rK _ _ XV Dd;have Xs:=rK _ _ rl gH3;have gg:=Yp _ _ yx b5;clear rK Yp)|(refine fO rfl 65 (.tmp 39) (.const (.int .u64 0)) rfl rfl B 7 133 0 _ rfl rfl gT4 (by simp[bC]) (by kernel_rfl) ?_;intro W5 gT5 vW Yr;have Ys:=vW _ _ XV Yq;have Xx:=vW _ _ rl Xs;have qk:=Yr _ _ yx gg;clear vW Yr)|(refine adw rfl 67 (.tmp 5) rfl gh rfl 67 #[.int .u64 (dw H 0:Nat),.int .u64 (dw H 1:Nat),.int .u64 (dw H 2:Nat),.int .u64 (dw H 3:Nat)] (0,0) _ Xx Tryz.underlying67 rfl (by kernel_rfl) ?_;clear Xx))
  have Yt:=Hd.out;obtain⟨D,hD⟩:∃D,D=wv [d0,d1,d2]:=⟨_,rfl⟩;have SP:d0<18446744073709551616:=Yt.2.1 d0 (by simp);have hd1:d1<18446744073709551616:=Yt.2.1 d1 (by simp);have J0:d2<18446744073709551616:=Yt.2.1 d2 (by simp);have HD:=ab hD;have QM:Hid (D<2^130):=ab (by rw[hD];exact Yt.2.2.2.2);clear Yt hD
  go_loopw [41] (fun iv wi=>∃(i:Nat) (U:List Nat),i≤4∧iv=.int .i64 i∧Hid (U.length=8∧(∀t∈U,t<18446744073709551616)∧wv U=L+wv ((bC H).take i)*D)∧
   wi.heap[B]?=some (.cells (gq U).toArray 133 (0,0))∧wi.heap[B+1]?=some (.cells (ax 0) 67 (0,0))∧Below w.heap.size w wi) (fun iv _=>4-(intOf iv).toNat)
  case atStart=>exact⟨0,bC L++[0,0,0,0],by omega,rfl,ab ⟨rfl,fun t ht=>by rcases List.mem_append.1 ht with h|h;exact oa L _ h;(have:t=0:=by simpa using h);omega,by rw[ry,iN L hL];simp[wv]⟩,gT5,Ys,qk⟩
  case round=>
   clear gT5 Ys qk gT1 gT2 Yn gT4 OT Tb Dd Yq bH bS b5 gg Xp Xq gH3 Xs GT GO;obtain⟨i,T1,hi,rfl,O6,gT,gO,hb⟩:=hrel
   by_cases aV:i<4
   · obtain⟨a,ha⟩:=ae (dw H i)
     have LK:a<18446744073709551616:=by rw[ha];exact jP _ _
     have tX:=fun ww=>lF H i aV ww
     simp only[←ha] at tX;have Iy:=hF.below hb pG;have q0:World.cell? _ ⟨g,o+4,none⟩=some (.int .u64 (d0:Nat)):=Iy.2.2 0 (by simp);have q1:World.cell? _ ⟨g,o+5,none⟩=some (.int .u64 (d1:Nat)):=Iy.2.2 1 (by simp);have q2:World.cell? _ ⟨g,o+6,none⟩=some (.int .u64 (d2:Nat)):=Iy.2.2 2 (by simp);have Ha:=ab ha;obtain⟨S,hS⟩:=ae (wv T1);have HS:=ab hS;have GT:=ab gT;have GO:=ab gO;clear ha hS Iy gT gO;go_wp2_with fail;clear q0 q1 q2 tX;rw[show decide ((i:Int)<4)=true from adA (by omega)]
     go_loopw [8,49] (fun cv kv wk=>∃(k c:Nat) (U:List Nat),k≤3∧kv=.int .i64 k∧cv=.int .u64 c∧c<18446744073709551616∧Hid (U.length=8∧(∀t∈U,t<18446744073709551616)∧wv U+c*2^(64*(i+k))=S+a*wv ([d0,d1,d2].take k)*2^(64*i))∧
      wk.heap[B]?=some (.cells (gq U).toArray 133 (0,0))∧wk.heap[B+1]?=some (.cells (ax 0) 67 (0,0))∧Below w.heap.size w wk) (fun _ kv _=>3-(intOf kv).toNat)
     case atStart=>exact⟨0,0,T1,by omega,rfl,rfl,by omega,ab ⟨O6.out.1,O6.out.2.1,by rw[HS.out];simp[wv]⟩,GT.out,GO.out,hb⟩
     case round=>
      clear GT GO hb;obtain⟨k,c,U,hk,rfl,rfl,hc,HU,gT,gO,hb⟩:=hrel
      by_cases S6:k<3
      · obtain⟨b,iG⟩:∃b,b=[d0,d1,d2].getD k 0:=⟨_,rfl⟩
        have LL:b<18446744073709551616:=by
         rw[iG];rcases (show k=0∨k=1∨k=2 by omega) with rfl|rfl|rfl
         · exact SP
         · exact hd1
         exact J0
        have tX:=fun ww=>Bl d0 d1 d2 k S6 ww
        simp only[←iG] at tX;have Hbb:=ab iG;obtain⟨j,hj⟩:∃j,j=i+k:=⟨_,rfl⟩;have NT:j<8:=by omega
        have VI:(i:Int)+(k:Int)=(j:Int):=by omega
        have LM:j<U.length:=by rw[HU.out.1];exact NT
        have cT:=eG gT (k:=j) LM;have zT:=dQ gT j;have S7:U[j]=U.getD j 0:=by simp[LM]
        obtain⟨t,ht⟩:∃t:Nat,t=U.getD j 0:=⟨_,rfl⟩;have G6:t<18446744073709551616:=by rw[ht,←S7];exact HU.out.2.1 _ (List.getElem_mem _)
        rw[S7,←ht] at cT;obtain⟨m1,m2,m3⟩:=mac a b c t LK LL hc G6;have D8:=fun ww=>Tryz.bits_Mul64 a b LK LL ww
        obtain⟨hi,QL⟩:∃hi,hi=a*b/18446744073709551616:=⟨_,rfl⟩;obtain⟨lo,NU⟩:∃lo,lo=a*b%18446744073709551616:=⟨_,rfl⟩;rw[←QL,←NU] at m1 m2 m3;simp only[←QL,←NU] at D8;have FA:=fun ww=>kA lo c ww
        obtain⟨l1,lE⟩:∃l1,l1=(lo+c)%18446744073709551616:=⟨_,rfl⟩;obtain⟨c1,oT⟩:∃c1,c1=(lo+c)/18446744073709551616:=⟨_,rfl⟩;rw[←lE,←oT] at m2 m3;rw[←oT] at m1;simp only[←lE,←oT] at FA;have yr:=fun ww=>kA t l1 ww
        obtain⟨t1,zS⟩:∃t1,t1=(t+l1)%18446744073709551616:=⟨_,rfl⟩;obtain⟨c2,lL⟩:∃c2,c2=(t+l1)/18446744073709551616:=⟨_,rfl⟩;rw[←lL] at m2;rw[←zS,←lL] at m3;simp only[←zS,←lL] at yr;have Bk:t1<18446744073709551616:=by rw[zS];exact Nat.mod_lt _ (by decide)
        have S8:=ab D8;have M3:=ab m3;have Hj:=ab hj;have Ht:=ab ht;have GO:=ab gO;have GT:=ab gT;clear iG hj ht QL NU lE oT zS lL m3 D8 gO gT LM S7;go_wp2_with (go_at_call 83;refine(S8.out _).mono ?_;rintro e w' ⟨rfl,LN⟩;rw[LN];clear LN);refine⟨⟨k+1,hi+c1+c2,U.set j t1,by omega,by go_num,by go_num,m2,ab ⟨by simpa using HU.out.1,fun q hq=>?_,?_⟩,vU GT.out,fW GO.out (by omega),hb.setCell (p:=⟨B,j,none⟩) yx _⟩,by simp[intOf];omega⟩
        · rcases List.mem_or_eq_of_mem_set hq with h|h
          · exact HU.out.2.1 q h
          exact h▸Bk
        have hjj:=Hj.out;have htt:=Ht.out;have hUl:=HU.out.1;subst hjj;refine ux U [d0,d1,d2] i k a c _ t1 S (by omega) S6 ?_ HU.out.2.2;have e1:U[i+k]'(by omega)=t:=by rw[htt];simp[show i+k<U.length by omega]
        have e2:[d0,d1,d2][k]'S6=b:=by
         rw[Hbb.out];rcases (show k=0∨k=1∨k=2 by omega) with rfl|rfl|rfl<;>rfl
        rw[e1,e2];exact M3.out
      obtain rfl:k=3:=by omega
      obtain⟨q0,hq0⟩:∃q,q=i+3:=⟨_,rfl⟩;have acB:(i:Int)+3=(q0:Int):=by omega
      obtain⟨V2,C3⟩:∃V2,V2=L+wv ((bC H).take (i+1))*D:=⟨_,rfl⟩
      have fT:wv U+c*2^(64*q0)=V2:=by
       have h1:=HU.out.2.2;rw[show [d0,d1,d2].take 3=[d0,d1,d2] from rfl,←HD.out,HS.out,O6.out.2.2,←hq0] at h1;rw[h1,C3,yK H i a aV Ha.out,Nat.add_mul,Nat.mul_right_comm];omega
      have QN:V2<2^448:=by
       rw[C3];exact D9 L D _ hL QM.out (by rw[adq];omega) (fun x hx=>oa H x (List.mem_of_mem_take hx))
      have Yu:=ab QN;have G1:=ab C3;have oW:=ab fT;have Yv:q0≤7:=by omega
      have GO:=ab gO;have GT:=ab gT;clear hq0 C3 fT QN gO gT;go_wp2_with fail
      go_loopw [8,14] (fun cv qv wk=>∃(q c:Nat) (U:List Nat),q≤7∧qv=.int .i64 q∧cv=.int .u64 c∧c<18446744073709551616∧Hid (U.length=8∧(∀t∈U,t<18446744073709551616)∧wv U+c*2^(64*q)=V2)∧
       wk.heap[B]?=some (.cells (gq U).toArray 133 (0,0))∧wk.heap[B+1]?=some (.cells (ax 0) 67 (0,0))∧Below w.heap.size w wk) (fun _ qv _=>8-(intOf qv).toNat)
      case atStart=>exact⟨q0,c,U,Yv,rfl,rfl,hc,ab ⟨HU.out.1,HU.out.2.1,oW.out⟩,GT.out,GO.out,hb⟩
      case round=>
       clear hc HU GT GO hb oW Yv;obtain⟨q,c,U,hq7,rfl,rfl,hc,HU,gT,gO,hb⟩:=hrel
       by_cases lP:c=0
       · subst lP
         have GO:=ab gO;have GT:=ab gT;clear gO gT;go_wp2_with fail;exact⟨⟨i+1,U,by omega,by go_num,ab ⟨HU.out.1,HU.out.2.1,by have h1:=HU.out.2.2;have h2:=G1.out;rw[←h2,←h1];omega⟩,GT.out,GO.out,hb⟩,by simp[intOf];omega⟩
       have hcI:¬((c:Int)=0):=by omega
       have hq:q<7:=Bo _ c q V2 HU.out.2.2 Yu.out lP;have VL:q<U.length:=by rw[HU.out.1];omega
       have cT:=eG gT (k:=q) VL;have zT:=dQ gT q;have hUq:U[q]=U.getD q 0:=by simp[VL]
       obtain⟨t,ht⟩:∃t:Nat,t=U.getD q 0:=⟨_,rfl⟩;have G6:t<18446744073709551616:=by rw[ht,←hUq];exact HU.out.2.1 _ (List.getElem_mem _)
       rw[hUq,←ht] at cT;have yr:=fun ww=>kA t c ww
       have m3:(t+c)%18446744073709551616+18446744073709551616*((t+c)/18446744073709551616)=t+0+c:=by omega
       have m2:(t+c)/18446744073709551616<18446744073709551616:=by omega
       obtain⟨t1,zS⟩:∃t1,t1=(t+c)%18446744073709551616:=⟨_,rfl⟩;obtain⟨c2,lL⟩:∃c2,c2=(t+c)/18446744073709551616:=⟨_,rfl⟩;rw[←lL] at m2;rw[←zS,←lL] at m3;simp only[←zS,←lL] at yr;have Bk:t1<18446744073709551616:=by rw[zS];exact Nat.mod_lt _ (by decide)
       have M3:=ab m3;have Ht:=ab ht;have GO:=ab gO;have GT:=ab gT;clear ht zS lL m3 gO gT VL hUq;go_wp2_with fail;refine⟨⟨q+1,c2,U.set q t1,by omega,by go_num,rfl,m2,ab ⟨by simpa using HU.out.1,fun r hr=>?_,?_⟩,vU GT.out,fW GO.out (by omega),hb.setCell (p:=⟨B,q,none⟩) yx _⟩,by simp[intOf];omega⟩
       · rcases List.mem_or_eq_of_mem_set hr with h|h
         · exact HU.out.2.1 r h
         exact h▸Bk
       have VL:q<U.length:=by rw[HU.out.1];omega
       have h1:=FJ U q VL 0 c c2 t1 (by rw[show U[q]=t by rw[Ht.out];simp[VL]];exact M3.out);have h2:=HU.out.2.2;omega
   obtain rfl:i=4:=by omega
   have Yl:wv T1=L+H*D:=by rw[O6.out.2.2,show (bC H).take 4=bC H from rfl,iN H hH]
   have hrw:=FQ gT;have Yw:=ab Yl;have Hrw:=ab hrw;have GO:=ab gO;have GT:=ab gT;clear Yl hrw gO gT;go_wp2_with fail;refine⟨⟨T1,ab ⟨O6.out.1,O6.out.2.1,?_⟩,GT.out,GO.out,hb⟩,?_⟩
   · have h1:=Bh m D L H (by rw[HD.out];exact Hd.out.2.2.1)
     rw[Yw.out,h1,←HTv.out];exact HT.out.2.2
   rw[Hrw.out,ju.out,Yw.out,HTv.out];exact Ip D L H (Nat.lt_trans QM.out (by decide)) Hh0.out
theorem fh {P:Program} {ops:Array Oper} {rest:List Oper} {o:Oper} {a:Act} {w:World} {Q:Exit→Act→World→Prop} (lQ:o.guard=none) (ty:TypeId) (x y:Operand) (ho:o.op=.store ty x y) (hd:o.dst=none)
 (g:Nat) (cells:Array Value) (hx:a.eval x=.pointer (some ⟨g,0,none⟩)) (hy:a.eval y=.agg cells)
 (t:TypeId) (kP:Array Value) (hg:w.heap[g]?=some (.cells kP t (0,0))) (hi:(P.info? ty).map (·.size)=some cells.size)
 (hold:kP.size=cells.size) (h1:cells.all (·.oneCell')=true)
 (h:∀w',w'.heap[g]?=some (.cells cells t (0,0))→(∀q ob,q≠g→w.heap[q]?=some ob→w'.heap[q]?=some ob)→(∀n w0,n≤g→Below n w0 w→Below n w0 w')→wpList P ops Q rest a w'):wpList P ops Q (o::rest) a w:=by
 refine ado lQ ty x y ho g cells hx hy t kP hg hi hold h1 ?_;rw[hd];exact h _ (adt _ _ _ _ _ _ hg) (fun q ob hq VK=>(setRow_other w g q _ hq).trans VK) (fun n w0 hn hb=>au hb hn _)
theorem jc (g o m:Nat) (d:List Nat) (hd:om m d) (hm:m<2^256) (x y:Nat) (hx:x<2^256) (hy:y<2^256) (w:World) (hF:FieldAt w g o m d):
 Calls Tryz.prog 38 #[.pointer (some ⟨g,o,none⟩),.agg (ax x),.agg (ax y)] w fun e W'=>e=.returned (.agg (ax (x*y%m)))∧Below w.heap.size w W':=
 LJ g o m d x y hx hy w hF (fun T W hl h64 hFW=>Ix g o m d hd hm T hl h64 W hFW)
theorem tu (e q:Nat) (h:q<(bC e).length):(bC e)[q]=dw e q:=by
 have h4:q<4:=h;rcases (show q=0∨q=1∨q=2∨q=3 by omega) with rfl|rfl|rfl|rfl<;>rfl
theorem FR (e i:Nat) (h:i<256):bits .and .u64 ((dw e (i/64):Nat)/2^(i%64):Int) 1=((e/2^i%2:Nat):Int):=by
 have h1:((dw e (i/64):Nat)/2^(i%64):Int)=((dw e (i/64)/2^(i%64):Nat):Int):=by push_cast;rfl
 have h2:dw e (i/64)/2^(i%64)<18446744073709551616:=Nat.lt_of_le_of_lt (Nat.div_le_self _ _) (jP _ _);rw[h1];have h3:=bits_and_u64_nat (dw e (i/64)/2^(i%64)) 1 h2 (by decide);rw[Nat.and_one_is_mod,Lp e i h] at h3;exact h3
theorem LQ (m x e:Nat) (hm:1<m):∀j,tm m x e j<m
 |0=>hm
 |j+1=>by unfold tm;split<;>exact Nat.mod_lt _ (by omega)
set_option exponentiation.threshold 1000 in
theorem uy (g o m:Nat) (d:List Nat) (hd:om m d) (hm:m<2^256) (Fy:1<m) (x e:Nat) (hx:x<2^256) (w:World) (hF:FieldAt w g o m d):
 Calls Tryz.prog 80 #[.pointer (some ⟨g,o,none⟩),.agg (ax x),.agg (ax e)] w fun r W'=>r=.returned (.agg (ax (pw m x e)))∧Below w.heap.size w W':=by
 have pG:=hF.1;obtain⟨R,hR⟩:=ae (pw m x e);rw[←hR];have HR:=ab hR;clear hR;have Hd:=ab hd;have Hm:=ab hm;have Hm1:=ab Fy;clear hd hm Fy;unfold ax;go_enter Tryz.func80,Tryz.ntmps80;go_wp2_with fail;have h4:=l6 w (.cells (ax x) 67) (.cells (ax e) 67) (.cells (ax 0) 67) (.cells (ax 1) 67);obtain⟨W0,bD⟩:∃W0,W0=((((w.alloc (.cells (ax x) 67)).alloc (.cells (ax e) 67)).alloc (.cells (ax 0) 67)).alloc (.cells (ax 1) 67)):=⟨_,rfl⟩;have de:Below w.heap.size w W0:=by rw[bD];exact((((adl _ w).alloc (adi _) _).alloc (by simp) _).alloc (by simp;omega) _).alloc (by simp;omega) _
 refine(show W0=_ from bD)▸?_;rw[←bD] at h4;obtain⟨gX,gE,gR,gO⟩:=h4;obtain⟨B,hB⟩:=ae w.heap.size;rw[←hB] at gX gE gR gO⊢;have HB:=ab hB;have yx:w.heap.size≤B+1+1+1:=by omega
 clear bD hB
 go_loopw [8] (fun iv wr=>∃(j:Nat) (z:Int),j≤256∧iv=.int .i64 z∧Hid (z=255-(j:Int))∧
  wr.heap[B]?=some (.cells (ax x) 67 (0,0))∧wr.heap[B+1]?=some (.cells (gq (bC e)).toArray 67 (0,0))∧wr.heap[B+1+1]?=some (.cells (ax 0) 67 (0,0))∧wr.heap[B+1+1+1]?=some (.cells (ax (tm m x e j)) 67 (0,0))∧Below w.heap.size w wr) (fun iv _=>(intOf iv+1).toNat)
 case atStart=>exact⟨0,255,by omega,rfl,ab (by omega),gX,gE,gR,gO,de⟩
 case round=>
  clear gX gE gR gO de;obtain⟨j,z,hj,rfl,Hz,gX,gE,gR,gO,hb⟩:=hrel;have qf:=ab (show (Tryz.prog.info? 67).map (·.size)=some 4 by kernel_rfl)
  by_cases aV:j<256
  · obtain⟨i,hi⟩:∃i:Nat,i=255-j:=⟨_,rfl⟩
    obtain rfl:z=(i:Int):=by have:=Hz.out;omega
    have Bp:i<256:=by omega
    have Hi:=ab hi;obtain⟨V,hV⟩:=ae (tm m x e j);have hVm:V<2^256:=by rw[hV];exact Nat.lt_trans (LQ m x e Hm1.out j) Hm.out
    rw[←hV] at gO;have HV:=ab hV;have Iy:=hF.below hb pG;have Hsq:=ab (jc g o m d Hd.out Hm.out V V hVm hVm _ Iy);have GX:=ab gX;have GE:=ab gE;have GR:=ab gR;have GO:=ab gO;have vX:=ab (adg.1 gX).1;have VM:=ab (adg.1 gE).1;have Da:=ab (adg.1 gR).1;have NV:=ab (adg.1 gO).1;clear hi hV Iy gX gE gR gO Hz;go_wp2_with (refine adw rfl 67 (.tmp 7) rfl (B+1+1+1) rfl 67 (ax V) (0,0) _ GO.out Tryz.underlying67 rfl qf.out ?_);refine Hsq.out.mono ?_;rintro r w2 ⟨rfl,bS⟩;have De:=(bS.block B vX.out).trans GX.out;have gE2:=(bS.block (B+1) VM.out).trans GE.out;have Lc:=(bS.block (B+1+1) Da.out).trans GR.out;have Tb:=(bS.block (B+1+1+1) NV.out).trans GO.out;have lN:=hb.trans (bS.mono hb.size);clear bS Hsq GX GE GR GO vX VM Da NV hb;obtain⟨V2,C3⟩:∃V2,V2=V*V%m:=⟨_,rfl⟩;rw[←C3];have Yx:V2<m:=by rw[C3];exact Nat.mod_lt _ (by have:=Hm1.out;omega)
    have G1:=ab C3;have abc:=ab Yx;clear C3 Yx;obtain⟨en,DB⟩:=ae (dw e (i/64));have px:=FR e i Bp;rw[←DB] at px;obtain⟨b,iG⟩:∃b,b=e/2^i%2:=⟨_,rfl⟩;rw[←iG] at px
    have zG:tm m x e (j+1)=if b=1 then V2*x%m else V2:=by
     rw[iG,G1.out,HV.out,Hi.out];rfl
    have Hen:=ab DB;have Hbb:=ab iG;have J3:=ab zG;clear DB iG zG
    by_cases bH:b=1
    · subst bH
      rw[if_pos rfl] at J3;go_wp2_with (first|(refine adw rfl 67 (.tmp 7) rfl (B+1+1+1) rfl 67 (ax V2) (0,0) _ GO.out Tryz.underlying67 rfl qf.out ?_)|(refine adw rfl 67 (.tmp 4) rfl B rfl 67 (ax x) (0,0) _ GX.out Tryz.underlying67 rfl qf.out ?_)|(refine fh rfl 67 (.tmp 7) (.tmp 17) rfl rfl (B+1+1+1) (ax V2) rfl rfl 67 _ Tb qf.out rfl (aK _) ?_;intro w3 Dd ho iG;have Tc:=ho _ _ (by omega) De;have O7:=ho _ _ (by omega) gE2;have NW:=ho _ _ (by omega) Lc;have b5:=iG _ _ yx lN;have cE:=eG O7 (k:=i/64) (by rw[jz];omega);rw[tu,←Hen.out] at cE;have vX:=ab (adg.1 Tc).1;have VM:=ab (adg.1 O7).1;have Da:=ab (adg.1 NW).1;have NV:=ab (adg.1 Dd).1;have GX:=ab Tc;have GE:=ab O7;have GR:=ab NW;have GO:=ab Dd;clear ho iG De gE2 Lc Tb Tc O7 NW Dd lN));refine(jc g o m d Hd.out Hm.out V2 x (Nat.lt_trans abc.out Hm.out) hx _ (hF.below b5 pG)).mono ?_;rintro r w4 ⟨rfl,gg⟩;have gX4:=(gg.block B vX.out).trans GX.out;have gE4:=(gg.block (B+1) VM.out).trans GE.out;have FE:=(gg.block (B+1+1) Da.out).trans GR.out;have Yq:=(gg.block (B+1+1+1) NV.out).trans GO.out;have lN:=b5.trans (gg.mono b5.size);clear gg GX GE GR GO vX VM Da NV b5 cE;obtain⟨V3,hV3⟩:∃V3,V3=V2*x%m:=⟨_,rfl⟩;rw[←hV3] at J3⊢;clear hV3;go_wp2_with (refine fh rfl 67 (.tmp 7) (.tmp 30) rfl rfl (B+1+1+1) (ax V3) rfl rfl 67 _ Yq qf.out rfl (aK _) ?_;intro w5 Ys ho iG;have gX5:=ho _ _ (by omega) gX4;have gE5:=ho _ _ (by omega) gE4;have Xw:=ho _ _ (by omega) FE;have qk:=iG _ _ yx lN;have GX:=ab gX5;have GE:=ab gE5;have GR:=ab Xw;have GO:=ab Ys;clear ho iG gX4 gE4 FE Yq gX5 gE5 Xw Ys lN);exact⟨⟨j+1,(i:Int)-1,by omega,rfl,ab (by have:=Hi.out;omega),GX.out,GE.out,GR.out,by rw[J3.out];exact GO.out,qk⟩,by simp[intOf];try omega⟩
    have abd:¬((b:Int)=1):=by omega
    rw[if_neg bH] at J3;go_wp2_with (refine fh rfl 67 (.tmp 7) (.tmp 17) rfl rfl (B+1+1+1) (ax V2) rfl rfl 67 _ Tb qf.out rfl (aK _) ?_;intro w3 Dd ho iG;have Tc:=ho _ _ (by omega) De;have O7:=ho _ _ (by omega) gE2;have NW:=ho _ _ (by omega) Lc;have b5:=iG _ _ yx lN;have cE:=eG O7 (k:=i/64) (by rw[jz];omega);rw[tu,←Hen.out] at cE;have vX:=ab (adg.1 Tc).1;have VM:=ab (adg.1 O7).1;have Da:=ab (adg.1 NW).1;have NV:=ab (adg.1 Dd).1;have GX:=ab Tc;have GE:=ab O7;have GR:=ab NW;have GO:=ab Dd;clear ho iG De gE2 Lc Tb Tc O7 NW Dd lN);exact⟨⟨j+1,(i:Int)-1,by omega,rfl,ab (by have:=Hi.out;omega),GX.out,GE.out,GR.out,by rw[J3.out];exact GO.out,b5⟩,by simp[intOf];try omega⟩
  obtain rfl:j=256:=by omega
  obtain rfl:z=-1:=by have:=Hz.out;omega
  rw[show tm m x e 256=R from HR.out.symm] at gO;have GR:=ab gR;have GO:=ab gO;clear gX gE gR gO Hz;go_wp2_with (first|(refine adw rfl 67 (.tmp 7) rfl (B+1+1+1) rfl 67 (ax R) (0,0) _ GO.out Tryz.underlying67 rfl qf.out ?_)|(refine ado rfl 67 (.tmp 6) (.tmp 31) rfl (B+1+1) (ax R) rfl rfl 67 _ GR.out qf.out rfl (aK _) ?_));refine adm (v:=.agg (ax R)) ?_ rfl ⟨rfl,au hb (by have:=HB.out;omega) _⟩;exact adr rfl _ _ (B+1+1) 67 (ax R) (0,0) _ rfl (adt _ _ _ _ _ _ GR.out) Tryz.underlying67 rfl qf.out
def dP:List Nat:=[4294968273,0,0]
def dN:List Nat:=[4624529908474429119,4994812053365940164,1]
set_option exponentiation.threshold 1000 in
theorem kB:om ak dP:=⟨rfl,by simp[dP],by decide+kernel,by decide+kernel,by decide+kernel⟩
set_option exponentiation.threshold 1000 in
theorem ql:om ar dN:=⟨rfl,by simp[dN],by decide+kernel,by decide+kernel,by decide+kernel⟩
set_option exponentiation.threshold 1000 in
theorem aU:ak<2^256:=by decide+kernel
set_option exponentiation.threshold 1000 in
theorem bU:ar<2^256:=by decide+kernel
def uz:Array Value:=#[.int .u64 18446744069414583343,.int .u64 18446744073709551615,.int .u64 18446744073709551615,.int .u64 18446744073709551615,.int .u64 4294968273,.int .u64 0,.int .u64 0]
def uA:Array Value:=#[.int .u64 13822214165235122497,.int .u64 13451932020343611451,.int .u64 18446744073709551614,.int .u64 18446744073709551615,.int .u64 4624529908474429119,.int .u64 4994812053365940164,.int .u64 1]
def kC:Array Value:=#[.int .u64 18446744069414583343,.int .u64 18446744073709551615,.int .u64 18446744073709551615,.int .u64 18446744073709551615,.int .u64 4294968273,.int .u64 0,.int .u64 0,
 .int .u64 13822214165235122497,.int .u64 13451932020343611451,.int .u64 18446744073709551614,.int .u64 18446744073709551615,.int .u64 4624529908474429119,.int .u64 4994812053365940164,.int .u64 1]
theorem uB (w:World):Calls Tryz.prog 68 #[] w fun e W'=>e=.returned (.agg uz)∧Below w.heap.size w W':=by
 go_enter Tryz.func68,Tryz.ntmps68;go_wp2_with fail;refine adm (v:=.agg uz) ?_ rfl ⟨rfl,(adl _ w).alloc (adi _) _⟩;exact adr rfl _ _ w.heap.size 72 uz (0,0) _ rfl (adk w _) Tryz.underlying72 rfl (by kernel_rfl)
theorem uC (w:World):Calls Tryz.prog 69 #[] w fun e W'=>e=.returned (.agg uA)∧Below w.heap.size w W':=by
 go_enter Tryz.func69,Tryz.ntmps69;go_wp2_with fail;refine adm (v:=.agg uA) ?_ rfl ⟨rfl,(adl _ w).alloc (adi _) _⟩;exact adr rfl _ _ w.heap.size 72 uA (0,0) _ rfl (adk w _) Tryz.underlying72 rfl (by kernel_rfl)
theorem bZ {w:World} {g t:Nat} {fr:Nat×Nat} (h:w.heap[g]?=some (.cells kC t fr)):FieldAt w g 0 ak dP∧FieldAt w g 7 ar dN:=by
 have hl:=(adg.1 h).1;refine⟨⟨hl,fun j hj=>?_,fun j hj=>?_⟩,⟨hl,fun j hj=>?_,fun j hj=>?_⟩⟩
 · rw[adn _ _ _ _ _ _ h]
   rcases (show j=0∨j=1∨j=2∨j=3 by omega) with rfl|rfl|rfl|rfl<;>kernel_rfl
 · rw[adn _ _ _ _ _ _ h]
   have hj:j<3:=hj;rcases (show j=0∨j=1∨j=2 by omega) with rfl|rfl|rfl<;>rfl
 · rw[adn _ _ _ _ _ _ h]
   rcases (show j=0∨j=1∨j=2∨j=3 by omega) with rfl|rfl|rfl|rfl<;>kernel_rfl
 rw[adn _ _ _ _ _ _ h];have hj:j<3:=hj;rcases (show j=0∨j=1∨j=2 by omega) with rfl|rfl|rfl<;>rfl
theorem rM (w:World):Calls Tryz.prog 27 #[] w fun e W'=>∃g,e=.returned (.pointer (some ⟨g,0,none⟩))∧w.heap.size≤g∧FieldAt W' g 0 ak dP∧FieldAt W' g 7 ar dN∧Below w.heap.size w W':=by
 go_enter Tryz.func27,Tryz.ntmps27;go_wp2_with fail;refine(uB _).mono ?_;rintro e w1 ⟨rfl,bH⟩;go_wp2_with fail;refine(uC _).mono ?_;rintro e w2 ⟨rfl,bS⟩;have hb:=bH.trans (bS.mono bH.size);clear bH bS;unfold uz uA;go_wp2_with (refine wpList_boxTo rfl 74 (.tmp 3) rfl _ rfl w2.heap.size rfl kC rfl ?_);have hF:=bZ (adk w2 (.cells kC 74));obtain⟨W,hW⟩:=ae (w2.alloc (.cells kC 74));have OR:Below w.heap.size w W:=by rw[hW];exact hb.alloc hb.size _
 refine(show W=_ from hW)▸?_;rw[←hW] at hF;go_ret;exact⟨_,rfl,hb.size,hF.1,hF.2,OR⟩
end Go.Proofs.YtnlkdheaohocnaaGreatDoor
