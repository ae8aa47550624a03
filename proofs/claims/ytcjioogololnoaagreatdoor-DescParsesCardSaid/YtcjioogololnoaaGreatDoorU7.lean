/- Of any text: the program's descriptors and the reference's are read and written alike (DescParses). No condition. -/
import Derived.Test.YtcjioogololnoaaGreatDoorU1
import Derived.Test.YtcjioogololnoaaGreatDoorU6
import Derived.Test.YtcjioogololnoaaGreatDoorU3
import Derived.Test.YtcjioogololnoaaGreatDoorU4
import Derived.Deep.MidRow
set_option maxRecDepth 1000000
set_option maxHeartbeats 16000000
set_option linter.unusedVariables false
set_option linter.unusedSimpArgs false
namespace Go.Proofs.YtcjioogololnoaaGreatDoor
open Go.RowKit Go.Shelf
theorem E0 (k x:BitVec 32) (l:List (BitVec 32)):(rnd k x l).length=l.length:=by unfold rnd;split<;>simp
theorem CC (ks:List (BitVec 32)) (bs:List UInt8) (st:List (BitVec 32)) (k:Nat):(Cy ks bs st k).length=st.length:=by
 induction k with
 |zero=>rfl
 |succ k ih=>rw[Cy,E0,ih]
theorem Ac (ks:List (BitVec 32)) (bs:List UInt8) (st:List (BitVec 32)):(rh ks bs st).length=st.length:=by simp[rh,CC]
def blk (st:List (BitVec 32)) (m:List UInt8):Nat→List (BitVec 32)
 |0=>st
 |j+1=>rh nQ ((m.drop (64*j)).take 64) (blk st m j)
theorem cq (st:List (BitVec 32)) (m:List UInt8) (j:Nat):(blk st m j).length=st.length:=by
 induction j with
 |zero=>rfl
 |succ k ih=>rw[blk,Ac,ih]
def SC (st:List (BitVec 32)) (a b c:Value):Array Value:=(eK st++[a,b,c]).toArray
theorem ew {w:World} {g E:Nat} {st:List (BitVec 32)} {a b c:Value} (cW:st.length=8) (h:w.heap[g]?=some (.cells (SC st a b c) E (0,0))):
 w.cell? ⟨g,8,none⟩=some a∧w.cell? ⟨g,9,none⟩=some b∧w.cell? ⟨g,10,none⟩=some c∧∀j,w.frozen? ⟨g,j,none⟩=false:=by
 refine⟨?_,?_,?_,fun j=>agF w g j _ _ h⟩
 all_goals rw[agb w g _ _ E (0,0) h,SC];simp[cW]
theorem uS {w:World} {g E:Nat} {st:List (BitVec 32)} {a b c:Value} (cW:st.length=8) (h:w.heap[g]?=some (.cells (SC st a b c) E (0,0))) (v:Value):
 (w.setCell ⟨g,8,none⟩ v).heap[g]?=some (.cells (SC st v b c) E (0,0)):=by
 rw[heap_setCell_same w g 8 _ _ v h,SC,SC];simp[List.setIfInBounds_toArray,List.set_append_right,cW]
theorem Iq {w:World} {g E:Nat} {st:List (BitVec 32)} {a b c:Value} (cW:st.length=8) (h:w.heap[g]?=some (.cells (SC st a b c) E (0,0))) (v:Value):
 (w.setCell ⟨g,9,none⟩ v).heap[g]?=some (.cells (SC st a v c) E (0,0)):=by
 rw[heap_setCell_same w g 9 _ _ v h,SC,SC];simp[List.setIfInBounds_toArray,List.set_append_right,cW]
theorem Nt {w:World} {g E:Nat} {st:List (BitVec 32)} {a b c:Value} (cW:st.length=8) (h:w.heap[g]?=some (.cells (SC st a b c) E (0,0))) (v:Value):
 (w.setCell ⟨g,10,none⟩ v).heap[g]?=some (.cells (SC st a b v) E (0,0)):=by
 rw[heap_setCell_same w g 10 _ _ v h,SC,SC];simp[List.setIfInBounds_toArray,List.set_append_right,cW]
theorem kZ (g E:Nat):∀(vs l1 l2 l3:List Value) (w:World),l2.length=vs.length→w.heap[g]?=some (.cells (l1++l2++l3).toArray E (0,0))→
 (w.setCells g l1.length vs).heap[g]?=some (.cells (l1++vs++l3).toArray E (0,0))
 |[],l1,l2,l3,w,hl,h=>by
  obtain rfl:l2=[]:=List.length_eq_zero_iff.1 hl;exact h
 |v::vs,l1,[],l3,w,hl,h=>by simp at hl
 |v::vs,l1,u::l2,l3,w,hl,h=>by
  have:=kZ g E vs (l1++[v]) l2 l3 (w.setCell ⟨g,l1.length,none⟩ v) (by simpa using hl) (by
   rw[heap_setCell_same w g l1.length _ _ v h];simp[List.setIfInBounds_toArray,List.set_append_right])
  rw[World.setCells];simpa using this
theorem Xn {w:World} {g E:Nat} {st st':List (BitVec 32)} {a b c:Value} (cW:st.length=8) (acQ:st'.length=8) (h:w.heap[g]?=some (.cells (SC st a b c) E (0,0))):
 (w.setCells g 0 (eK st')).heap[g]?=some (.cells (SC st' a b c) E (0,0)):=
 kZ g E (eK st') [] (eK st) [a,b,c] w (by simp[cW,acQ]) h
theorem nS (g:Nat):∀(vs:List Value) (o:Nat) (w:World),w.heap.size≤(w.setCells g o vs).heap.size
 |[],_,_=>af2 _
 |v::vs,o,w=>by
  rw[World.setCells];exact agx ((af5 0 w).setCell (p:=⟨g,o,none⟩) (agu _) v).size (nS g vs (o+1) _)
def Sx (g:Nat) (w:World) (A:Option Addr) (xs:List Value):Prop:=
 0<xs.length→∃b o,A=some ⟨b,o,none⟩∧b≠g∧b<w.heap.size∧∀j (h:j<xs.length),w.cell? ⟨b,o+j,none⟩=some xs[j]
section
variable {g g':Nat} {w w':World} {A:Option Addr} {xs:List Value}
theorem Sx.sl (h:Sx g w A xs):Sl w w.heap.size A xs:=fun hn=>by
 obtain⟨b,o,e,_,h1,h2⟩:=h hn;exact⟨b,o,e,h1,h2⟩
theorem Sx.keep (h:Sx g w A xs) (hz:w.heap.size≤w'.heap.size) (hk:∀p:Addr,p.block≠g→p.block<w.heap.size→w'.cell? p=w.cell? p):Sx g w' A xs:=fun hn=>by
 obtain⟨b,o,e,hg,h1,h2⟩:=h hn;exact⟨b,o,e,hg,by omega,fun j hj=>(hk ⟨b,o+j,none⟩ hg h1).trans (h2 j hj)⟩
theorem Sx.grown (h:Sx g w A xs) (hg:w.grownBy w' (some g)):Sx g w' A xs:=
 h.keep hg.size fun p hp hb=>World.cell?_of_block (hg.block p.block hb (fun e=>hp (by injection e)))
theorem Sx.alloc (h:Sx g w A xs) (o:Obj):Sx g (w.alloc o) A xs:=h.keep (((af5 0 w).alloc (agu _) o).size) fun p _ hb=>World.cell?_alloc_lt w o p hb
theorem Sx.below (h:Sx g w A xs) (hb:Below w.heap.size w w'):Sx g w' A xs:=h.keep hb.size fun p _ hp=>hb.cell hp
theorem Sx.setCell (h:Sx g w A xs) (j:Nat) (v:Value):Sx g (w.setCell ⟨g,j,none⟩ v) A xs:=
 h.keep (((af5 0 w).setCell (agu _) v).size) fun p hp _=>World.cell?_setCell_other w _ p v (fun e=>by subst e;exact hp rfl)
theorem Sx.setCells (h:Sx g w A xs) (j:Nat) (vs:List Value):Sx g (w.setCells g j vs) A xs:=
 h.keep (nS g vs j w) fun p hp _=>World.cell?_setCells_out g vs j w p (fun e=>absurd e hp)
theorem Sx.cut (h:Sx g w A xs) {k cap:Nat} (hc:xs.length≤cap) (hk:k≤xs.length):Sx g w (if cap=k then A else A.map (·.add k)) (xs.drop k):=fun hn=>by
 have M4:k<xs.length:=by simp at hn;omega
 obtain⟨b,o,rfl,hg,hb,aD⟩:=h (by omega);rw[if_neg (by omega)];refine⟨b,o+k,by simp[fM],hg,hb,fun j hj=>?_⟩;have:=aD (k+j) (by simp at hj;omega);rw[Nat.add_assoc,this];simp
theorem Sx.cutf (h:Sx g w A xs) {k cap:Nat} (f:Addr→Addr) (hf:∀b o,f ⟨b,o,none⟩=⟨b,o+k,none⟩) (hc:xs.length≤cap) (hk:k≤xs.length):Sx g w (if cap=k then A else A.map f) (xs.drop k):=fun hn=>by
 have M4:k<xs.length:=by simp at hn;omega
 obtain⟨b,o,rfl,hg,hb,aD⟩:=h (by omega);rw[if_neg (by omega)];refine⟨b,o+k,by simp[hf],hg,hb,fun j hj=>?_⟩;have:=aD (k+j) (by simp at hj;omega);rw[Nat.add_assoc,this];simp
theorem Sx.take (h:Sx g w A xs) (n:Nat):Sx g w A (xs.take n):=fun hn=>by
 obtain⟨b,o,rfl,hg,hb,aD⟩:=h (by simp at hn;omega);exact⟨b,o,rfl,hg,hb,fun j hj=>by rw[aD j (by simp at hj;omega)];simp⟩
end
theorem ya (w:World) (g j:Nat) (v:Value):w.grownBy (w.setCell ⟨g,j,none⟩ v) (some g):=
 have h:=(af5 0 w).setCell (p:=⟨g,j,none⟩) (agu _) v
 ⟨h.os,h.tape,h.output,h.size,fun k _ dt=>ago w _ v k (fun e=>dt (by rw[e]))⟩
theorem nT (g:Nat):∀(vs:List Value) (o:Nat) (w:World),w.grownBy (w.setCells g o vs) (some g)
 |[],_,w=>World.grownBy.refl _ _
 |v::vs,o,w=>by
  rw[World.setCells];have h1:=ya w g o v;have h2:=nT g vs (o+1) (w.setCell ⟨g,o,none⟩ v);exact⟨h2.os.trans h1.os,h2.tape.trans h1.tape,h2.output.trans h1.output,agx h1.size h2.size,fun k hk dt=>(h2.block k (agq hk h1.size) dt).trans (h1.block k hk dt)⟩
theorem Ow.row_ne {w:World} {base E t g:Nat} {v:Value} {xs:List Value} {cur:Array Value} (h:Ow w base E v xs) (hg:w.heap[g]?=some (.cells cur t (0,0))) (Sh:t≠E):∀r,az v=some r→r≠g:=by
 obtain⟨A,c,rfl,h1,h2,h3⟩:=h;intro r hr e;subst e
 cases A with
 |none=>simp[az] at hr
 |some a=>
  by_cases iu:c=0
  · simp[az,iu] at hr
  obtain⟨g',aeS,ea,_,hh,_⟩:=h3 (by omega);injection ea with ea;subst ea;simp[az,iu] at hr;subst hr;rw[hg] at hh;injection hh with hh;injection hh with _ ht;exact Sh ht
def k6 (g:Nat) (w:World):Nat:=match w.cell? ⟨g,8,none⟩ with|some (.slice _ n _)=>n|_=>0
theorem yO (g base:Nat) (st:List (BitVec 32)) (cW:st.length=8) (wv:Value) (ws bs:List UInt8) (n:Nat) (A:Option Addr) (c:Nat) (w:World)
 (hb:base≤g) (hg:w.heap[g]?=some (.cells (SC st wv (.int .u64 n) (.bool true)) 209 (0,0))) (mL:base≤w.heap.size)
 (JM:Ow w base 5 wv (B8 ws)) (hs:Sx g w A (B8 bs)) (hn:n+bs.length≤8192) (JS:ws.length+bs.length≤8192) (sF:bs.length≤c) (hc:c≤maxLen):
 Calls Tryz.prog 161 #[.pointer (some ⟨g,0,none⟩),.slice A bs.length c] w fun e W'=>e=.returned (.tuple #[])∧Below base w W'∧
  ∃A' c',(ws++bs).length%64≤c'∧c'≤maxLen∧Sx g W' A' (B8 ((ws++bs).drop (64*((ws++bs).length/64))))∧
   W'.heap[g]?=some (.cells (SC (blk st (ws++bs) ((ws++bs).length/64)) (.slice A' ((ws++bs).length%64) c') (.int .u64 (n+bs.length:Nat)) (.bool true)) 209 (0,0)):=by
 obtain⟨c8,c9,c10,lR⟩:=ew cW hg;have oU:g<w.heap.size:=(af3.1 hg).1;obtain⟨Aw,cw,rfl⟩:∃Aw cw,wv=.slice Aw ws.length cw:=by obtain⟨Aw,cw,e,_⟩:=JM;exact⟨Aw,cw,by simpa using e⟩
 obtain⟨n',U0⟩:∃n':Nat,n'=n+bs.length:=⟨_,rfl⟩;have en:(n:Int)+(bs.length:Int)=(n':Int):=by omega
 have jd:=Iq cW hg (.int .u64 n');have CD:=JM.setCell (p:=⟨g,9,none⟩) (fun r hr e=>JM.row_ne hg (by decide) r hr e.symm) (.int .u64 n');have jY:=(hs.setCell 9 (.int .u64 n')).sl;have aZ:=(af5 base w).setCell (p:=⟨g,9,none⟩) hb (.int .u64 n');have Nb:=aZ.size;have ER:=CD.row_ne jd (by decide);obtain⟨_,c9',acR,aaC⟩:=ew cW jd;have c8':(w.setCell ⟨g,9,none⟩ (.int .u64 n')).cell? ⟨g,8,none⟩=some (.slice Aw ws.length cw):=(ew cW jd).1;have Hg:=aa jd;have eg:=aa cW;have Hn:=aa U0;have acS:=aa aaC;have Nu:=aa ER;have hf9:=lR 9;have hf8:=lR 8;clear hg cW lR jd aaC JM U0 ER;have q1:(B8 ws).length+bs.length≤maxLen:=by simp[maxLen];omega
 have q2:((B8 ws).length+bs.length)*1≤140737488355328:=by simp;omega
 have q3:base≤(w.setCell ⟨g,9,none⟩ (.int .u64 n')).heap.size:=by omega
 obtain⟨T,hT⟩:∃T,T=ws++bs:=⟨_,rfl⟩;have HT:=aa hT;clear hT;have Q1:=aa q1;have Q2:=aa q2;clear q1 q2;go_enter Tryz.func161,Tryz.ntmps161;go_wp2_with (at_builtin;go_loud (refine aq (m:=bs.length) (c:=c) (base:=base) (xs:=B8 ws) (v:=.slice Aw ws.length cw) (A:=A) (B:=(w.setCell ⟨g,9,none⟩ (.int .u64 n')).heap.size) (news:=B8 bs) jf rfl (.tmp 31) (.tmp 32) rfl rfl CD rfl jY (B8_length _) (aG _) Q1.out Q2.out q3 ?_);intro v1 w1 jc jQ oV;have fj:=aZ.grown jQ (by omega) (fun r hr=>(CD.row r hr).1);have Mq:=(jQ.block g (by omega) (fun e=>Nu.out g e.symm rfl)).trans Hg.out;have hf1:=agF w1 g 8 _ _ Mq;have dW:=(ew eg.out Mq).1;rw[←bu,←HT.out] at jc;obtain⟨A1,c1,rfl,acT,Xo⟩:=aH jc);have qo:=uS eg.out Mq (.slice A1 T.length c1);have St:=jc.setCell (p:=⟨g,8,none⟩) (fun r hr e=>jc.row_ne Mq (by decide) r hr e.symm) (.slice A1 T.length c1);have jZ:=fj.setCell (p:=⟨g,8,none⟩) hb (.slice A1 T.length c1);obtain⟨w2,iN⟩:∃w2,w2=w1.setCell ⟨g,8,none⟩ (.slice A1 T.length c1):=⟨_,rfl⟩;rw[←iN] at qo St jZ
 have JT:Sx g w2 A1 (B8 T):=fun hn=>by
  have hs:=St.sl hn;obtain⟨b,o,e,hb,hc⟩:=hs;subst e;refine⟨b,o,rfl,?_,hb,hc⟩;refine St.row_ne qo (by decide) b ?_;simp[az];simp at hn;omega
 have mI:=jZ.size;have Nv:g<w2.heap.size:=(af3.1 qo).1;rw[←iN];clear iN St fj aZ jQ oV jY CD c8 c9 hf1 dW jc q3 Q1 Q2 Mq c8' c9' acR hf8 hf9 Nb acS Nu;refine(CB w2).mono ?_;rintro e w3 ⟨rfl,py⟩;obtain⟨kc,mG⟩:∃kc,kc=(eK nQ).toArray:=⟨_,rfl⟩;have Xp:=(py.block g Nv).trans qo;have Nw:=JT.below py;have Nx:=jZ.trans (py.mono (by omega));have yP:=py.size;rw[←mG];have hsz:kc.size=64:=by rw[mG];simp[fP]
 have h1:kc.all (·.oneCell')=true:=by rw[mG];simp[eK];intro x _;rfl
 have ri:(Tryz.prog.info? 242).map (·.size)=some kc.size:=by rw[hsz];kernel_rfl
 have Ss:=aa mG;have ra:=aa hsz;have H1:=aa h1;have lW:=aa ri;clear mG hsz h1 ri;go_wp2_with (first|(refine af6 rfl 242 (.tmp 4) (.tmp 36) rfl w3.heap.size kc rfl rfl 242 _ (af4 w3 _) lW.out ra.out.symm H1.out ?_)|fail);rw[agi];obtain⟨w4,nE⟩:=ab (w3.alloc (.cells kc 242));have Xq:w4.heap[w3.heap.size]?=some (.cells (eK nQ).toArray 242 (0,0)):=by rw[nE,←Ss.out];exact af4 w3 _
 have JU:w4.heap[g]?=some (.cells (SC st (.slice A1 T.length c1) (.int .u64 n') (.bool true)) 209 (0,0)):=by rw[nE];exact(Below.heap_alloc w3 _ g (by omega)).trans Xp
 have Xr:Sx g w4 A1 (B8 T):=by rw[nE];exact Nw.alloc _
 have hB4:Below base w w4:=by rw[nE];exact Nx.alloc (by omega) _
 rw[←nE];obtain⟨gk,jR⟩:=ab w3.heap.size;rw[←jR] at Xq⊢;have dt:g≠gk:=by omega
 have HG4:=aa JU;have Hk4:=aa Xq;clear jR nE JU Xq Nw Nx Xp JT jZ qo;have JV:T.length≤8192:=by rw[HT.out,agc];omega
 simp only[Act.put]
 go_loopw [] (fun wr=>∃j A' c',64*j≤T.length∧T.length-64*j≤c'∧c'≤maxLen∧Sx g wr A' (B8 (T.drop (64*j)))∧wr.heap[g]?=some (.cells (SC (blk st T j) (.slice A' (T.length-64*j) c') (.int .u64 n') (.bool true)) 209 (0,0))∧
  wr.heap[gk]?=some (.cells (eK nQ).toArray 242 (0,0))∧Below base w wr) (fun wr=>k6 g wr)
 case atStart=>exact⟨0,A1,c1,by omega,by omega,Xo,by simpa using Xr,by simpa [blk] using HG4.out,Hk4.out,hB4⟩
 case round=>
  obtain⟨j,A',c',hj,Ae,CE,hX,hG,hK,hB⟩:=hrel;obtain⟨d8,d9,d10,df⟩:=ew (by rw[cq];exact eg.out) hG;obtain⟨r,hr⟩:∃r,r=T.length-64*j:=⟨_,rfl⟩;rw[←hr] at d8 Ae;have HG:=aa hG;have HK:=aa hK;have Hr:=aa hr;clear hG hK df hr
  by_cases aL:64≤r
  · have bW:Tryz.prog.follows .mixedOrders=true:=by kernel_rfl
    go_wp2_with fail;refine an [(0,0),(1,0),(2,0),(3,0),(4,0),(5,0),(6,1),(7,0),(8,2)] 8 bW (by kernel_rfl) (by intro c a d v w h;cases d<;>exact h) ?_
    repeat ((first|refine ag rfl fun K hK=>?_|refine af rfl fun K hK=>?_);go_simp;(first|refine hK _ ?_|(simp only[IntWalk.iteOmega];go_simp;refine hK _ ?_)|(go_bits;go_simp;refine hK _ ?_));clear hK K;try go_bits)
    refine ae rfl rfl (fun K hK=>?_);go_wp2_with fail;obtain⟨bl,mE⟩:∃bl,bl=(T.drop (64*j)).take 64:=⟨_,rfl⟩;have Ny:bl.length=64:=by rw[mE];have:=Hr.out;simp;omega
    have Ve:Sl wr wr.heap.size A' (B8 bl):=by rw[mE,oQ];exact(hX.take 64).sl
    have JW:=HG.out;rw[←Hr.out] at JW;refine(CA g gk _ _ (blk st T j) (by rw[cq];exact eg.out) [.slice A' r c',.int .u64 n',.bool true] nQ fP A' c' bl Ny wr.drew JW HK.out dt Ve).mono ?_;rintro e wS ⟨rfl,Xs,Af⟩;rw[mE] at Xs;have E3:wS.heap[g]?=some (.cells (SC (blk st T (j+1)) (.slice A' r c') (.int .u64 n') (.bool true)) 209 (0,0)):=Xs;have hXS:=(show Sx g wr.drew A' (B8 (T.drop (64*j))) from hX).grown Af;have hBS:=hB.drew.grown Af (by have:wr.drew.heap.size=wr.heap.size:=rfl;have:=hB.size;omega) (fun r hr=>by injection hr with hr;omega);have Rl:wS.heap[gk]?=_:=(Af.block gk (af3.1 HK.out).1 (fun e=>dt (by injection e with e;exact e.symm))).trans HK.out;obtain⟨e8,_,_,ef⟩:=ew (by rw[cq];exact eg.out) E3;have ef8:=ef 8;have HGS:=aa E3;have Su:=aa Rl;clear Xs E3 Rl Af ef mE Ny Ve JW;go_wp2_with fail;refine⟨.inl (by decide),ak ?_⟩;go_wp2_with fail;have hlen:(B8 (T.drop (64*j))).length=r:=by have:=Hr.out;simp;omega
    have hXn:=hXS.cutf (k:=64) (cap:=c') (fun x=>⟨x.block,x.off+64,none⟩) (fun _ _=>rfl) (by omega) (by omega);rw[←oR,List.drop_drop,←Nat.mul_succ] at hXn;have e1:T.length-64*(j+1)=r-64:=by have:=Hr.out;omega
    have Sv:(blk st T (j+1)).length=8:=by rw[cq];exact eg.out
    have hGn:=uS Sv HGS.out (.slice (if c'=64 then A' else A'.map fun x=>⟨x.block,x.off+64,none⟩) (r-64) (c'-64));have m1:k6 g wr=r:=by simp[k6,d8]
    have m2:=(ew Sv hGn).1;refine⟨⟨j+1,_,c'-64,by have:=Hr.out;omega,by omega,by omega,hXn.setCell 8 _,by rw[e1];exact hGn,(ago wS _ _ gk (fun e=>dt e.symm)).trans Su.out,hBS.setCell (p:=⟨g,8,none⟩) hb _⟩,?_⟩;rw[m1,k6,m2];show r-64<r;omega
  go_wp2_with fail;have er:=Hr.out;have e1:T.length/64=j:=by omega
  have e2:T.length%64=r:=by omega
  have JW:=HG.out;rw[←er] at JW;refine bodyPost_end (results_none rfl _ _ _) rfl ?_;refine⟨rfl,hB,A',c',?_,CE,?_,?_⟩
  · rw[←HT.out,e2];exact Ae
  · rw[←HT.out,e1];exact hX
  rw[←HT.out,e1,e2,←Hn.out];exact JW
theorem Ir (g base:Nat) (z:List (BitVec 32)) (hz:z.length=8) (wv:Value) (ws bs:List UInt8) (n:Nat) (A:Option Addr) (c:Nat) (w:World)
 (hb:base≤g) (hg:w.heap[g]?=some (.cells (SC z wv (.int .u64 n) (.bool false)) 209 (0,0))) (mL:base≤w.heap.size)
 (JM:Ow w base 5 wv (B8 ws)) (hs:Sx g w A (B8 bs)) (hn:n+bs.length≤8192) (JS:ws.length+bs.length≤8192) (sF:bs.length≤c) (hc:c≤maxLen):
 Calls Tryz.prog 161 #[.pointer (some ⟨g,0,none⟩),.slice A bs.length c] w fun e W'=>e=.returned (.tuple #[])∧Below base w W'∧
  ∃A' c',(ws++bs).length%64≤c'∧c'≤maxLen∧Sx g W' A' (B8 ((ws++bs).drop (64*((ws++bs).length/64))))∧
   W'.heap[g]?=some (.cells (SC (blk nR (ws++bs) ((ws++bs).length/64)) (.slice A' ((ws++bs).length%64) c') (.int .u64 (n+bs.length:Nat)) (.bool true)) 209 (0,0)):=by
 obtain⟨c8,c9,c10,lR⟩:=ew hz hg;have oU:g<w.heap.size:=(af3.1 hg).1;obtain⟨Aw,cw,rfl⟩:∃Aw cw,wv=.slice Aw ws.length cw:=by obtain⟨Aw,cw,e,_⟩:=JM;exact⟨Aw,cw,by simpa using e⟩
 obtain⟨n',U0⟩:∃n':Nat,n'=n+bs.length:=⟨_,rfl⟩;have en:(n:Int)+(bs.length:Int)=(n':Int):=by omega
 have q1:(B8 ws).length+bs.length≤maxLen:=by simp[maxLen];omega
 have q2:((B8 ws).length+bs.length)*1≤140737488355328:=by simp;omega
 obtain⟨T,hT⟩:∃T,T=ws++bs:=⟨_,rfl⟩;obtain⟨st,cW⟩:=ab nR;have Sv:st.length=8:=by rw[cW];rfl
 obtain⟨sc,JX⟩:∃sc,sc=(eK st).toArray:=⟨_,rfl⟩;have Xt:sc.size=8:=by rw[JX];simp[Sv]
 have h1:sc.all (·.oneCell')=true:=by rw[JX];simp[eK];intro x _;rfl
 have ri:(Tryz.prog.info? 207).map (·.size)=some sc.size:=by rw[Xt];kernel_rfl
 rw[←cW];have HT:=aa hT;have Hg0:=aa hg;have Hz:=aa hz;have Hn:=aa U0;have Q1:=aa q1;have Q2:=aa q2;have HS:=aa cW;have eg:=aa Sv;have Hsc:=aa JX;have acU:=aa Xt;have H1:=aa h1;have lW:=aa ri;clear hg hz lR U0 q1 q2 hT cW Sv JX Xt h1 ri;go_enter Tryz.func161,Tryz.ntmps161;go_wp2_with fail;refine(JR w).mono ?_;rintro e wb ⟨rfl,Sw⟩;rw[←HS.out,←Hsc.out];have U4:=(Sw.block g oU).trans Hg0.out;have Xu:=JM.below Sw (af2 _);have CF:=hs.below Sw
 have ht:wb.there g 0 sc.size:=fun j hj=>⟨by
  rw[agb wb g _ _ _ (0,0) U4];have:=acU.out;rw[Array.getElem?_eq_getElem (by simp[SC,Hz.out];omega)];rfl,agF wb g _ _ _ U4⟩
 have Ht:=aa ht;clear ht
 have facts:∀wp,wp=wb.setCells g 0 sc.toList→wp.cell? ⟨g,8,none⟩=some (.slice Aw ws.length cw)∧wp.cell? ⟨g,9,none⟩=some (.int .u64 n)∧wp.cell? ⟨g,10,none⟩=some (.bool false)∧wp.frozen? ⟨g,8,none⟩=false∧wp.frozen? ⟨g,9,none⟩=false∧wp.frozen? ⟨g,10,none⟩=false∧
  ∃wq,wq=(wp.setCell ⟨g,10,none⟩ (.bool true)).setCell ⟨g,9,none⟩ (.int .u64 n')∧wq.heap[g]?=some (.cells (SC st (.slice Aw ws.length cw) (.int .u64 n') (.bool true)) 209 (0,0))∧Ow wq base 5 (.slice Aw ws.length cw) (B8 ws)∧Sl wq wq.heap.size A (B8 bs)∧Below base w wq∧(∀r,az (.slice Aw ws.length cw)=some r→r≠g):=fun wp hwp=>by
  have hGp:wp.heap[g]?=some (.cells (SC st (.slice Aw ws.length cw) (.int .u64 n) (.bool false)) 209 (0,0)):=by
   rw[hwp,Hsc.out];exact Xn Hz.out eg.out U4
  have fL:wb.grownBy wp (some g):=by rw[hwp];exact nT g _ _ _
  have dt:=Xu.row_ne U4 (by decide);have hO:=Xu.kept fL (fun r hr e=>dt r hr (by injection e with e;exact e.symm));have hS:=CF.grown fL;have hB:=(Sw.mono mL).grown fL (agx mL Sw.size) (fun r hr=>by injection hr with hr;omega);obtain⟨d8,d9,d10,df⟩:=ew eg.out hGp;refine⟨d8,d9,d10,df 8,df 9,df 10,_,rfl,Iq eg.out (Nt eg.out hGp _) _,?_,((hS.setCell 10 _).setCell 9 _).sl,(hB.setCell (p:=⟨g,10,none⟩) hb _).setCell (p:=⟨g,9,none⟩) hb _,dt⟩;exact(hO.setCell (p:=⟨g,10,none⟩) (fun r hr e=>dt r hr e.symm) _).setCell (p:=⟨g,9,none⟩) (fun r hr e=>dt r hr e.symm) _
 go_wp2_with (first|(refine wpList_store_mid rfl 207 (.tmp 14) (.tmp 12) rfl g 0 sc rfl rfl Ht.out lW.out H1.out ?_;obtain⟨wp,hwp⟩:=ab (wb.setCells g 0 sc.toList);rw[←hwp];obtain⟨d8,d9,d10,f8,f9,f10,wq,Nz,Hgq,CD,jY,aZ,ER⟩:=facts wp hwp;have HWQ:=aa Nz;have Hg:=aa Hgq;have Nu:=aa ER;clear hwp Nz Hgq ER facts Sw U4 Xu CF Ht)|(at_builtin;go_loud (rw[←HWQ.out];have q3:base≤wq.heap.size:=agx mL aZ.size;refine aq (m:=bs.length) (c:=c) (base:=base) (xs:=B8 ws) (v:=.slice Aw ws.length cw) (A:=A) (B:=wq.heap.size) (news:=B8 bs) jf rfl (.tmp 31) (.tmp 32) rfl rfl CD rfl jY (B8_length _) (aG _) Q1.out Q2.out q3 ?_);intro v1 w1 jc jQ oV;have fj:=aZ.grown jQ q3 (fun r hr=>(CD.row r hr).1);have Mq:=(jQ.block g (af3.1 Hg.out).1 (fun e=>Nu.out g e.symm rfl)).trans Hg.out;have hf1:=agF w1 g 8 _ _ Mq;have dW:=(ew eg.out Mq).1;rw[←bu,←HT.out] at jc;obtain⟨A1,c1,rfl,acT,Xo⟩:=aH jc));have qo:=uS eg.out Mq (.slice A1 T.length c1);have St:=jc.setCell (p:=⟨g,8,none⟩) (fun r hr e=>jc.row_ne Mq (by decide) r hr e.symm) (.slice A1 T.length c1);have jZ:=fj.setCell (p:=⟨g,8,none⟩) hb (.slice A1 T.length c1);obtain⟨w2,iN⟩:∃w2,w2=w1.setCell ⟨g,8,none⟩ (.slice A1 T.length c1):=⟨_,rfl⟩;rw[←iN] at qo St jZ
 have JT:Sx g w2 A1 (B8 T):=fun hn=>by
  have hs:=St.sl hn;obtain⟨b,o,e,hb,hc⟩:=hs;subst e;refine⟨b,o,rfl,?_,hb,hc⟩;refine St.row_ne qo (by decide) b ?_;simp[az];simp at hn;omega
 have mI:=jZ.size;have Nv:g<w2.heap.size:=(af3.1 qo).1;rw[←iN];clear iN St fj aZ jQ oV jY CD c8 c9 hf1 dW jc q3 Q1 Q2 Mq d8 d9 d10 f8 f9 f10 Nu HWQ;refine(CB w2).mono ?_;rintro e w3 ⟨rfl,py⟩;obtain⟨kc,mG⟩:∃kc,kc=(eK nQ).toArray:=⟨_,rfl⟩;have Xp:=(py.block g Nv).trans qo;have Nw:=JT.below py;have Nx:=jZ.trans (py.mono (by omega));have yP:=py.size;rw[←mG];have hsz:kc.size=64:=by rw[mG];simp[fP]
 have h1:kc.all (·.oneCell')=true:=by rw[mG];simp[eK];intro x _;rfl
 have ri:(Tryz.prog.info? 242).map (·.size)=some kc.size:=by rw[hsz];kernel_rfl
 have Ss:=aa mG;have ra:=aa hsz;have H1:=aa h1;have lW:=aa ri;clear mG hsz h1 ri;go_wp2_with (first|(refine af6 rfl 242 (.tmp 4) (.tmp 36) rfl w3.heap.size kc rfl rfl 242 _ (af4 w3 _) lW.out ra.out.symm H1.out ?_)|fail);rw[agi];obtain⟨w4,nE⟩:=ab (w3.alloc (.cells kc 242));have Xq:w4.heap[w3.heap.size]?=some (.cells (eK nQ).toArray 242 (0,0)):=by rw[nE,←Ss.out];exact af4 w3 _
 have JU:w4.heap[g]?=some (.cells (SC st (.slice A1 T.length c1) (.int .u64 n') (.bool true)) 209 (0,0)):=by rw[nE];exact(Below.heap_alloc w3 _ g (by omega)).trans Xp
 have Xr:Sx g w4 A1 (B8 T):=by rw[nE];exact Nw.alloc _
 have hB4:Below base w w4:=by rw[nE];exact Nx.alloc (by omega) _
 rw[←nE];obtain⟨gk,jR⟩:=ab w3.heap.size;rw[←jR] at Xq⊢;have dt:g≠gk:=by omega
 have HG4:=aa JU;have Hk4:=aa Xq;clear jR nE JU Xq Nw Nx Xp JT jZ qo;have JV:T.length≤8192:=by rw[HT.out,agc];omega
 simp only[Act.put]
 go_loopw [] (fun wr=>∃j A' c',64*j≤T.length∧T.length-64*j≤c'∧c'≤maxLen∧Sx g wr A' (B8 (T.drop (64*j)))∧wr.heap[g]?=some (.cells (SC (blk st T j) (.slice A' (T.length-64*j) c') (.int .u64 n') (.bool true)) 209 (0,0))∧
  wr.heap[gk]?=some (.cells (eK nQ).toArray 242 (0,0))∧Below base w wr) (fun wr=>k6 g wr)
 case atStart=>exact⟨0,A1,c1,by omega,by omega,Xo,by simpa using Xr,by simpa [blk] using HG4.out,Hk4.out,hB4⟩
 case round=>
  obtain⟨j,A',c',hj,Ae,CE,hX,hG,hK,hB⟩:=hrel;obtain⟨d8,d9,d10,df⟩:=ew (by rw[cq];exact eg.out) hG;obtain⟨r,hr⟩:∃r,r=T.length-64*j:=⟨_,rfl⟩;rw[←hr] at d8 Ae;have HG:=aa hG;have HK:=aa hK;have Hr:=aa hr;clear hG hK df hr
  by_cases aL:64≤r
  · have bW:Tryz.prog.follows .mixedOrders=true:=by kernel_rfl
    go_wp2_with fail;refine an [(0,0),(1,0),(2,0),(3,0),(4,0),(5,0),(6,1),(7,0),(8,2)] 8 bW (by kernel_rfl) (by intro c a d v w h;cases d<;>exact h) ?_
    repeat ((first|refine ag rfl fun K hK=>?_|refine af rfl fun K hK=>?_);go_simp;(first|refine hK _ ?_|(simp only[IntWalk.iteOmega];go_simp;refine hK _ ?_)|(go_bits;go_simp;refine hK _ ?_));clear hK K;try go_bits)
    refine ae rfl rfl (fun K hK=>?_);go_wp2_with fail;obtain⟨bl,mE⟩:∃bl,bl=(T.drop (64*j)).take 64:=⟨_,rfl⟩;have Ny:bl.length=64:=by rw[mE];have:=Hr.out;simp;omega
    have Ve:Sl wr wr.heap.size A' (B8 bl):=by rw[mE,oQ];exact(hX.take 64).sl
    have JW:=HG.out;rw[←Hr.out] at JW;refine(CA g gk _ _ (blk st T j) (by rw[cq];exact eg.out) [.slice A' r c',.int .u64 n',.bool true] nQ fP A' c' bl Ny wr.drew JW HK.out dt Ve).mono ?_;rintro e wS ⟨rfl,Xs,Af⟩;rw[mE] at Xs;have E3:wS.heap[g]?=some (.cells (SC (blk st T (j+1)) (.slice A' r c') (.int .u64 n') (.bool true)) 209 (0,0)):=Xs;have hXS:=(show Sx g wr.drew A' (B8 (T.drop (64*j))) from hX).grown Af;have hBS:=hB.drew.grown Af (by have:wr.drew.heap.size=wr.heap.size:=rfl;have:=hB.size;omega) (fun r hr=>by injection hr with hr;omega);have Rl:wS.heap[gk]?=_:=(Af.block gk (af3.1 HK.out).1 (fun e=>dt (by injection e with e;exact e.symm))).trans HK.out;obtain⟨e8,_,_,ef⟩:=ew (by rw[cq];exact eg.out) E3;have ef8:=ef 8;have HGS:=aa E3;have Su:=aa Rl;clear Xs E3 Rl Af ef mE Ny Ve JW;go_wp2_with fail;refine⟨.inl (by decide),ak ?_⟩;go_wp2_with fail;have hlen:(B8 (T.drop (64*j))).length=r:=by have:=Hr.out;simp;omega
    have hXn:=hXS.cutf (k:=64) (cap:=c') (fun x=>⟨x.block,x.off+64,none⟩) (fun _ _=>rfl) (by omega) (by omega);rw[←oR,List.drop_drop,←Nat.mul_succ] at hXn;have e1:T.length-64*(j+1)=r-64:=by have:=Hr.out;omega
    have Sv:(blk st T (j+1)).length=8:=by rw[cq];exact eg.out
    have hGn:=uS Sv HGS.out (.slice (if c'=64 then A' else A'.map fun x=>⟨x.block,x.off+64,none⟩) (r-64) (c'-64));have m1:k6 g wr=r:=by simp[k6,d8]
    have m2:=(ew Sv hGn).1;refine⟨⟨j+1,_,c'-64,by have:=Hr.out;omega,by omega,by omega,hXn.setCell 8 _,by rw[e1];exact hGn,(ago wS _ _ gk (fun e=>dt e.symm)).trans Su.out,hBS.setCell (p:=⟨g,8,none⟩) hb _⟩,?_⟩;rw[m1,k6,m2];show r-64<r;omega
  go_wp2_with fail;have er:=Hr.out;have e1:T.length/64=j:=by omega
  have e2:T.length%64=r:=by omega
  have JW:=HG.out;rw[←er] at JW;refine bodyPost_end (results_none rfl _ _ _) rfl ?_;refine⟨rfl,hB,A',c',?_,CE,?_,?_⟩
  · rw[←HT.out,e2];exact Ae
  · rw[←HT.out,e1];exact hX
  rw[←HT.out,e1,e2,←Hn.out];exact JW
end Go.Proofs.YtcjioogololnoaaGreatDoor
namespace Go.Proofs.YtcjioogololnoaaGreatDoor
def wv:List Nat→Nat
 |[]=>0
 |a::l=>a+18446744073709551616*wv l
theorem p64 (j:Nat):2^(64*(j+1))=18446744073709551616*2^(64*j):=by
 rw[Nat.mul_add,Nat.pow_add,Nat.mul_comm]
theorem sO (a b:List Nat):wv (a++b)=wv a+2^(64*a.length)*wv b:=by
 induction a with
 |nil=>simp[wv]
 |cons x a ih=>rw[agw,wv,ih,wv,agm,p64,Nat.mul_add,Nat.mul_assoc,Nat.add_assoc]
theorem NQ (n:Nat):wv (List.replicate n 0)=0:=by
 induction n with
 |zero=>rfl
 |succ n ih=>rw[List.replicate_succ,wv,ih]
theorem Fe:∀(T:List Nat) (j:Nat) (h:j<T.length) (v:Nat),wv (T.set j v)+T[j]*2^(64*j)=wv T+v*2^(64*j)
 |x::T,0,_,v=>by simp[wv];omega
 |x::T,j+1,h,v=>by
  have hj:j<T.length:=by simpa using h
  have ih:=Fe T j hj v;simp only[List.set_cons_succ,wv,List.getElem_cons_succ,p64];have e1:T[j]*(18446744073709551616*2^(64*j))=18446744073709551616*(T[j]*2^(64*j)):=by rw[Nat.mul_left_comm]
  have e2:v*(18446744073709551616*2^(64*j))=18446744073709551616*(v*2^(64*j)):=by rw[Nat.mul_left_comm]
  rw[e1,e2];omega
theorem yT:∀(T:List Nat),(∀x∈T,x<18446744073709551616)→wv T<2^(64*T.length)
 |[],_=>by simp[wv]
 |x::T,h=>by
  have ih:=yT T (fun y hy=>h y (by simp[hy]));have hx:=h x (by simp);rw[wv,agm,p64];omega
theorem j3 (T:List Nat) (k:Nat) (h:k<T.length):wv (T.take (k+1))=wv (T.take k)+T[k]*2^(64*k):=by
 rw[agh h,sO,agj,Nat.min_eq_left (by omega),wv,wv];simp[Nat.mul_comm]
def dw (n i:Nat):Nat:=n/2^(64*i)%18446744073709551616
def bC (n:Nat):List Nat:=[dw n 0,dw n 1,dw n 2,dw n 3]
theorem kj (n i:Nat):dw n i<18446744073709551616:=Nat.mod_lt _ (by decide)
theorem oW (n:Nat):∀x∈bC n,x<18446744073709551616:=by
 simp only[bC,List.mem_cons,List.not_mem_nil,or_false];rintro x (rfl|rfl|rfl|rfl)<;>exact kj _ _
theorem nY (n:Nat):(bC n).length=4:=rfl
theorem iU (n:Nat) (h:n<2^256):wv (bC n)=n:=by
 simp only[bC,wv,dw,show 64*0=0 from rfl,show 64*1=64 from rfl,show 64*2=128 from rfl,show 64*3=192 from rfl];omega
theorem rn (T:List Nat) (hl:T.length=4) (h:∀x∈T,x<18446744073709551616):bC (wv T)=T:=by
 match T,hl with
 |[a,b,c,d],_=>
  have ha:=h a (by simp);have hb:=h b (by simp);have hc:=h c (by simp);have hd:=h d (by simp);simp only[bC,wv,dw,show 64*0=0 from rfl,show 64*1=64 from rfl,show 64*2=128 from rfl,show 64*3=192 from rfl,List.cons.injEq,and_true];refine⟨by omega,by omega,by omega,by omega⟩
theorem mac (a b c t:Nat) (ha:a<18446744073709551616) (hb:b<18446744073709551616) (hc:c<18446744073709551616) (ht:t<18446744073709551616):
 a*b/18446744073709551616+(a*b%18446744073709551616+c)/18446744073709551616<18446744073709551616∧
 a*b/18446744073709551616+(a*b%18446744073709551616+c)/18446744073709551616+(t+(a*b%18446744073709551616+c)%18446744073709551616)/18446744073709551616<18446744073709551616∧
 (t+(a*b%18446744073709551616+c)%18446744073709551616)%18446744073709551616+18446744073709551616*(a*b/18446744073709551616+(a*b%18446744073709551616+c)/18446744073709551616+(t+(a*b%18446744073709551616+c)%18446744073709551616)/18446744073709551616)=t+a*b+c:=by
 have h1:a*b≤18446744073709551615*18446744073709551615:=Nat.mul_le_mul (by omega) (by omega);generalize a*b=p at*;refine⟨by omega,by omega,by omega⟩
theorem Iv (T:List Nat) (j:Nat) (h:j<T.length) (p c c' t':Nat) (he:t'+18446744073709551616*c'=T[j]+p+c):wv (T.set j t')+c'*2^(64*(j+1))=wv T+p*2^(64*j)+c*2^(64*j):=by
 have h1:=Fe T j h t';rw[p64];have h2:(t'+18446744073709551616*c')*2^(64*j)=(T[j]+p+c)*2^(64*j):=by rw[he]
 rw[Nat.add_mul,Nat.add_mul,Nat.add_mul] at h2;have e1:c'*(18446744073709551616*2^(64*j))=18446744073709551616*c'*2^(64*j):=by rw[←Nat.mul_assoc,Nat.mul_comm c']
 rw[e1];omega
def al:Nat:=115792089237316195423570985008687907853269984665640564039457584007908834671663
def fE:Nat:=115792089237316195423570985008687907852837564279074904382605163141518161494337
def yc (m x e:Nat):Nat→Nat
 |0=>1
 |j+1=>if e/2^(255-j)%2=1 then yc m x e j*yc m x e j%m*x%m else yc m x e j*yc m x e j%m
def pw (m x e:Nat):Nat:=yc m x e 256
def dY (b:List UInt8):Nat:=b.foldl (fun a c=>a*256+c.toNat) 0
def pU (b:List UInt8):Bool:=decide (dY b≠0)&&decide (dY b<fE)
def uY (x:Nat):Nat:=(x*x%al*x%al+7)%al
def Iw (x:Nat):Nat:=pw al (uY x) ((al+1)/4)
def eL (x:Nat):Bool:=decide (Iw x*Iw x%al=uY x)
def iE (b:List UInt8):Bool:=
 match b with
 |[]=>false
 |h::t=>decide (t.length=32)&&(decide (h=2)||decide (h=3))&&decide (dY t<al)&&eL (dY t)
theorem SI (b:List UInt8):∀v,b.foldl (fun a c=>a*256+c.toNat) v=v*256^b.length+dY b:=by
 induction b with
 |nil=>intro v;simp[dY]
 |cons c b ih=>
  intro v
  have h0:dY (c::b)=c.toNat*256^b.length+dY b:=by
   rw[dY,List.foldl_cons,ih];simp
  rw[List.foldl_cons,ih,h0,agm,Nat.pow_succ,Nat.add_mul,Nat.mul_assoc,Nat.mul_comm 256,Nat.add_assoc]
theorem km (a b:List UInt8):dY (a++b)=dY a*256^b.length+dY b:=by
 rw[dY,List.foldl_append,SI];rfl
theorem vF (a:List UInt8) (c:UInt8):dY (a++[c])=dY a*256+c.toNat:=by simp[dY]
theorem CS (c:UInt8) (b:List UInt8):dY (c::b)=c.toNat*256^b.length+dY b:=by
 have:=km [c] b;simpa [dY] using this
theorem lE (b:List UInt8):dY b<256^b.length:=by
 induction b with
 |nil=>simp[dY]
 |cons c b ih=>
  rw[CS,agm,Nat.pow_succ];have:=c.toNat_lt;have h2:c.toNat*256^b.length≤255*256^b.length:=Nat.mul_le_mul_right _ (by omega);omega
theorem NR (e i:Nat) (h:i<256):dw e (i/64)/2^(i%64)%2=e/2^i%2:=by
 have h1:e/2^i=e/2^(64*(i/64))/2^(i%64):=by
  rw[Nat.div_div_eq_div_mul,←Nat.pow_add,Nat.div_add_mod]
 rw[h1,dw];generalize e/2^(64*(i/64))=x;have hr:i%64<64:=Nat.mod_lt _ (by decide);generalize i%64=r at hr⊢;have e1:(18446744073709551616:Nat)=2^r*2^(64-r):=by rw[←Nat.pow_add,show r+(64-r)=64 by omega]
 rw[e1,Nat.mod_mul_right_div_self];have e2:(2:Nat)^(64-r)=2*2^(63-r):=by rw[show 64-r=(63-r)+1 by omega,Nat.pow_succ,Nat.mul_comm]
 rw[e2,Nat.mod_mul_right_mod]
theorem CT (m d L H:Nat) (h:m+d=2^256):(L+H*d)%m=(L+2^256*H)%m:=by
 rw[←h,show L+(m+d)*H=L+H*d+m*H by rw[Nat.add_mul,Nat.mul_comm d H];omega,Nat.add_mul_mod_self_left]
theorem Kd (d L H:Nat) (hd:d<2^256) (h:0<H):L+H*d<L+2^256*H:=by
 have:H*d<H*2^256:=Nat.mul_lt_mul_of_pos_left hd h;rw[Nat.mul_comm (2^256)];omega
theorem NS (m d x:Nat) (h:m+d=2^256) (hd:d<m) (hx:x<2^256):(if x<m then x else x-m)=x%m:=by
 by_cases aL:x<m
 · rw[if_pos aL,agA aL]
 rw[if_neg aL,Nat.mod_eq_sub_mod (by omega),agA (by omega)]
end Go.Proofs.YtcjioogololnoaaGreatDoor
