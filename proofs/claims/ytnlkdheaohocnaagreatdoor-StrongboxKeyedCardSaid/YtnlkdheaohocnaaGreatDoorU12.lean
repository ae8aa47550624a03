/- Whoever walks down with the secret signs what whoever walks down without it verifies, and the text of either walks the same way (StrongboxKeyed). No condition. -/
import Derived.Test.YtnlkdheaohocnaaGreatDoorU1
import Derived.Test.YtnlkdheaohocnaaGreatDoorU11
import Derived.Test.YtnlkdheaohocnaaGreatDoorU5
import Derived.Test.YtnlkdheaohocnaaGreatDoorU4
import Derived.Deep.MidRow
import Derived.Test.YtnlkdheaohocnaaGreatDoorU10
import Derived.Test.YtnlkdheaohocnaaGreatDoorU7
set_option maxRecDepth 1000000
set_option maxHeartbeats 16000000
set_option linter.unusedVariables false
set_option linter.unusedSimpArgs false
namespace Go.Proofs.YtnlkdheaohocnaaGreatDoor
open Go.RowKit Go.Shelf
theorem DI (k x:BitVec 32) (l:List (BitVec 32)):(rnd k x l).length=l.length:=by unfold rnd;split<;>simp
theorem AK (ks:List (BitVec 32)) (bs:List UInt8) (st:List (BitVec 32)) (k:Nat):(Gx ks bs st k).length=st.length:=by
 induction k with
 |zero=>rfl
 |succ k ih=>rw[Gx,DI,ih]
theorem yt (ks:List (BitVec 32)) (bs:List UInt8) (st:List (BitVec 32)):(tK ks bs st).length=st.length:=by simp[tK,AK]
def mq (st:List (BitVec 32)) (m:List UInt8):Nat→List (BitVec 32)
 |0=>st
 |j+1=>tK sN ((m.drop (64*j)).take 64) (mq st m j)
theorem b7 (st:List (BitVec 32)) (m:List UInt8) (j:Nat):(mq st m j).length=st.length:=by
 induction j with
 |zero=>rfl
 |succ k ih=>rw[mq,yt,ih]
def SC (st:List (BitVec 32)) (a b c:Value):Array Value:=(cg st++[a,b,c]).toArray
theorem dD {w:World} {g E:Nat} {st:List (BitVec 32)} {a b c:Value} (fT:st.length=8) (h:w.heap[g]?=some (.cells (SC st a b c) E (0,0))):
 w.cell? ⟨g,8,none⟩=some a∧w.cell? ⟨g,9,none⟩=some b∧w.cell? ⟨g,10,none⟩=some c∧∀j,w.frozen? ⟨g,j,none⟩=false:=by
 refine⟨?_,?_,?_,fun j=>frozen_of_row w g j _ _ h⟩
 all_goals rw[adn w g _ _ E (0,0) h,SC];simp[fT]
theorem ti {w:World} {g E:Nat} {st:List (BitVec 32)} {a b c:Value} (fT:st.length=8) (h:w.heap[g]?=some (.cells (SC st a b c) E (0,0))) (v:Value):
 (w.setCell ⟨g,8,none⟩ v).heap[g]?=some (.cells (SC st v b c) E (0,0)):=by
 rw[heap_setCell_same w g 8 _ _ v h,SC,SC];simp[List.setIfInBounds_toArray,List.set_append_right,fT]
theorem FB {w:World} {g E:Nat} {st:List (BitVec 32)} {a b c:Value} (fT:st.length=8) (h:w.heap[g]?=some (.cells (SC st a b c) E (0,0))) (v:Value):
 (w.setCell ⟨g,9,none⟩ v).heap[g]?=some (.cells (SC st a v c) E (0,0)):=by
 rw[heap_setCell_same w g 9 _ _ v h,SC,SC];simp[List.setIfInBounds_toArray,List.set_append_right,fT]
theorem KQ {w:World} {g E:Nat} {st:List (BitVec 32)} {a b c:Value} (fT:st.length=8) (h:w.heap[g]?=some (.cells (SC st a b c) E (0,0))) (v:Value):
 (w.setCell ⟨g,10,none⟩ v).heap[g]?=some (.cells (SC st a b v) E (0,0)):=by
 rw[heap_setCell_same w g 10 _ _ v h,SC,SC];simp[List.setIfInBounds_toArray,List.set_append_right,fT]
theorem k7 (g E:Nat):∀(vs l1 l2 l3:List Value) (w:World),l2.length=vs.length→w.heap[g]?=some (.cells (l1++l2++l3).toArray E (0,0))→
 (w.setCells g l1.length vs).heap[g]?=some (.cells (l1++vs++l3).toArray E (0,0))
 |[],l1,l2,l3,w,hl,h=>by
  obtain rfl:l2=[]:=List.length_eq_zero_iff.1 hl;exact h
 |v::vs,l1,[],l3,w,hl,h=>by simp at hl
 |v::vs,l1,u::l2,l3,w,hl,h=>by
  have:=k7 g E vs (l1++[v]) l2 l3 (w.setCell ⟨g,l1.length,none⟩ v) (by simpa using hl) (by
   rw[heap_setCell_same w g l1.length _ _ v h];simp[List.setIfInBounds_toArray,List.set_append_right])
  rw[World.setCells];simpa using this
theorem Sh {w:World} {g E:Nat} {st Sb:List (BitVec 32)} {a b c:Value} (fT:st.length=8) (aaD:Sb.length=8) (h:w.heap[g]?=some (.cells (SC st a b c) E (0,0))):
 (w.setCells g 0 (cg Sb)).heap[g]?=some (.cells (SC Sb a b c) E (0,0)):=
 k7 g E (cg Sb) [] (cg st) [a,b,c] w (by simp[fT,aaD]) h
theorem nv (g:Nat):∀(vs:List Value) (o:Nat) (w:World),w.heap.size≤(w.setCells g o vs).heap.size
 |[],_,_=>adi _
 |v::vs,o,w=>by
  rw[World.setCells];exact Nat.le_trans ((adl 0 w).setCell (p:=⟨g,o,none⟩) (adF _) v).size (nv g vs (o+1) _)
def Sx (g:Nat) (w:World) (A:Option Addr) (xs:List Value):Prop:=
 0<xs.length→∃b o,A=some ⟨b,o,none⟩∧b≠g∧b<w.heap.size∧∀j (h:j<xs.length),w.cell? ⟨b,o+j,none⟩=some xs[j]
section
variable {g g':Nat} {w w':World} {A:Option Addr} {xs:List Value}
theorem Sx.sl (h:Sx g w A xs):Sl w w.heap.size A xs:=fun hn=>by
 obtain⟨b,o,e,_,h1,h2⟩:=h hn;exact⟨b,o,e,h1,h2⟩
theorem Sx.keep (h:Sx g w A xs) (hz:w.heap.size≤w'.heap.size) (hk:∀p:Addr,p.block≠g→p.block<w.heap.size→w'.cell? p=w.cell? p):Sx g w' A xs:=fun hn=>by
 obtain⟨b,o,e,hg,h1,h2⟩:=h hn;exact⟨b,o,e,hg,by omega,fun j hj=>(hk ⟨b,o+j,none⟩ hg h1).trans (h2 j hj)⟩
theorem Sx.grown (h:Sx g w A xs) (hg:w.grownBy w' (some g)):Sx g w' A xs:=
 h.keep hg.size fun p hp hb=>World.cell?_of_block (hg.block p.block hb (fun e=>hp (by injection e)))
theorem Sx.alloc (h:Sx g w A xs) (o:Obj):Sx g (w.alloc o) A xs:=h.keep (((adl 0 w).alloc (adF _) o).size) fun p _ hb=>World.cell?_alloc_lt w o p hb
theorem Sx.below (h:Sx g w A xs) (hb:Below w.heap.size w w'):Sx g w' A xs:=h.keep hb.size fun p _ hp=>hb.cell hp
theorem Sx.setCell (h:Sx g w A xs) (j:Nat) (v:Value):Sx g (w.setCell ⟨g,j,none⟩ v) A xs:=
 h.keep (((adl 0 w).setCell (adF _) v).size) fun p hp _=>World.cell?_setCell_other w _ p v (fun e=>by subst e;exact hp rfl)
theorem Sx.setCells (h:Sx g w A xs) (j:Nat) (vs:List Value):Sx g (w.setCells g j vs) A xs:=
 h.keep (nv g vs j w) fun p hp _=>World.cell?_setCells_out g vs j w p (fun e=>absurd e hp)
theorem Sx.cut (h:Sx g w A xs) {k cap:Nat} (hc:xs.length≤cap) (hk:k≤xs.length):Sx g w (if cap=k then A else A.map (·.add k)) (xs.drop k):=fun hn=>by
 have hk':k<xs.length:=by simp at hn;omega
 obtain⟨b,o,rfl,hg,hb,aS⟩:=h (by omega);rw[if_neg (by omega)];refine⟨b,o+k,by simp[j9],hg,hb,fun j hj=>?_⟩;have:=aS (k+j) (by simp at hj;omega);rw[Nat.add_assoc,this];simp
theorem Sx.cutf (h:Sx g w A xs) {k cap:Nat} (f:Addr→Addr) (hf:∀b o,f ⟨b,o,none⟩=⟨b,o+k,none⟩) (hc:xs.length≤cap) (hk:k≤xs.length):Sx g w (if cap=k then A else A.map f) (xs.drop k):=fun hn=>by
 have hk':k<xs.length:=by simp at hn;omega
 obtain⟨b,o,rfl,hg,hb,aS⟩:=h (by omega);rw[if_neg (by omega)];refine⟨b,o+k,by simp[hf],hg,hb,fun j hj=>?_⟩;have:=aS (k+j) (by simp at hj;omega);rw[Nat.add_assoc,this];simp
theorem Sx.take (h:Sx g w A xs) (n:Nat):Sx g w A (xs.take n):=fun hn=>by
 obtain⟨b,o,rfl,hg,hb,aS⟩:=h (by simp at hn;omega);exact⟨b,o,rfl,hg,hb,fun j hj=>by rw[aS j (by simp at hj;omega)];simp⟩
end
theorem vP (w:World) (g j:Nat) (v:Value):w.grownBy (w.setCell ⟨g,j,none⟩ v) (some g):=
 have h:=(adl 0 w).setCell (p:=⟨g,j,none⟩) (adF _) v
 ⟨h.os,h.tape,h.output,h.size,fun k _ bN=>Below.heap_setCell w _ v k (fun e=>bN (by rw[e]))⟩
theorem nw (g:Nat):∀(vs:List Value) (o:Nat) (w:World),w.grownBy (w.setCells g o vs) (some g)
 |[],_,w=>World.grownBy.refl _ _
 |v::vs,o,w=>by
  rw[World.setCells];have h1:=vP w g o v;have h2:=nw g vs (o+1) (w.setCell ⟨g,o,none⟩ v);exact⟨h2.os.trans h1.os,h2.tape.trans h1.tape,h2.output.trans h1.output,Nat.le_trans h1.size h2.size,fun k hk bN=>(h2.block k (ads hk h1.size) bN).trans (h1.block k hk bN)⟩
theorem Ow.row_ne {w:World} {base E t g:Nat} {v:Value} {xs:List Value} {cur:Array Value} (h:Ow w base E v xs) (hg:w.heap[g]?=some (.cells cur t (0,0))) (hte:t≠E):∀r,aY v=some r→r≠g:=by
 obtain⟨A,c,rfl,h1,h2,h3⟩:=h;intro r hr e;subst e
 cases A with
 |none=>simp[aY] at hr
 |some a=>
  by_cases lP:c=0
  · simp[aY,lP] at hr
  obtain⟨g',acs,ea,_,hh,_⟩:=h3 (by omega);injection ea with ea;subst ea;simp[aY,lP] at hr;subst hr;rw[hg] at hh;injection hh with hh;injection hh with _ ht;exact hte ht
def la (g:Nat) (w:World):Nat:=match w.cell? ⟨g,8,none⟩ with|some (.slice _ n _)=>n|_=>0
theorem rj (g base:Nat) (st:List (BitVec 32)) (fT:st.length=8) (wv:Value) (ws bs:List UInt8) (n:Nat) (A:Option Addr) (c:Nat) (w:World)
 (hb:base≤g) (hg:w.heap[g]?=some (.cells (SC st wv (.int .u64 n) (.bool true)) 125 (0,0))) (l0:base≤w.heap.size)
 (C6:Ow w base 5 wv (B8 ws)) (hs:Sx g w A (B8 bs)) (hn:n+bs.length≤8192) (OF:ws.length+bs.length≤8192) (jT:bs.length≤c) (hc:c≤maxLen):
 Calls Tryz.prog 73 #[.pointer (some ⟨g,0,none⟩),.slice A bs.length c] w fun e W'=>e=.returned (.tuple #[])∧Below base w W'∧
  ∃A' c',(ws++bs).length%64≤c'∧c'≤maxLen∧Sx g W' A' (B8 ((ws++bs).drop (64*((ws++bs).length/64))))∧
   W'.heap[g]?=some (.cells (SC (mq st (ws++bs) ((ws++bs).length/64)) (.slice A' ((ws++bs).length%64) c') (.int .u64 (n+bs.length:Nat)) (.bool true)) 125 (0,0))∧((ws++bs).length<64→Ow W' base 5 (.slice A' (ws++bs).length c') (B8 (ws++bs))):=by
 obtain⟨c8,c9,c10,wV⟩:=dD fT hg;have kr:g<w.heap.size:=(adg.1 hg).1;obtain⟨Aw,cw,rfl⟩:∃Aw cw,wv=.slice Aw ws.length cw:=by obtain⟨Aw,cw,e,_⟩:=C6;exact⟨Aw,cw,by simpa using e⟩
 obtain⟨n',Ks⟩:∃n':Nat,n'=n+bs.length:=⟨_,rfl⟩;have en:(n:Int)+(bs.length:Int)=(n':Int):=by omega
 have kq:=FB fT hg (.int .u64 n');have AL:=C6.setCell (p:=⟨g,9,none⟩) (fun r hr e=>C6.row_ne hg (by decide) r hr e.symm) (.int .u64 n');have iH:=(hs.setCell 9 (.int .u64 n')).sl;have bH:=(adl base w).setCell (p:=⟨g,9,none⟩) hb (.int .u64 n');have G3:=bH.size;have DJ:=AL.row_ne kq (by decide);obtain⟨_,c9',aaE,Xa⟩:=dD fT kq;have c8':(w.setCell ⟨g,9,none⟩ (.int .u64 n')).cell? ⟨g,8,none⟩=some (.slice Aw ws.length cw):=(dD fT kq).1;have Hg:=ab kq;have oW:=ab fT;have Hn:=ab Ks;have aaF:=ab Xa;have KR:=ab DJ;have hf9:=wV 9;have hf8:=wV 8;clear hg fT wV kq Xa C6 Ks DJ;have q1:(B8 ws).length+bs.length≤maxLen:=by simp[maxLen];omega
 have q2:((B8 ws).length+bs.length)*1≤140737488355328:=by simp;omega
 have q3:base≤(w.setCell ⟨g,9,none⟩ (.int .u64 n')).heap.size:=by omega
 obtain⟨T,hT⟩:∃T,T=ws++bs:=⟨_,rfl⟩;have HT:=ab hT;clear hT;have Q1:=ab q1;have Q2:=ab q2;clear q1 q2;go_enter Tryz.func73,Tryz.ntmps73;go_wp2_with (at_builtin;go_loud (refine aX (m:=bs.length) (c:=c) (base:=base) (xs:=B8 ws) (v:=.slice Aw ws.length cw) (A:=A) (B:=(w.setCell ⟨g,9,none⟩ (.int .u64 n')).heap.size) (news:=B8 bs) lC rfl (.tmp 31) (.tmp 32) rfl rfl AL rfl iH (B8_length _) (aR _) Q1.out Q2.out q3 ?_);intro v1 w1 pf kS zJ;have mY:=bH.grown kS (by omega) (fun r hr=>(AL.row r hr).1);have KS:=(kS.block g (by omega) (fun e=>KR.out g e.symm rfl)).trans Hg.out;have Xb:=frozen_of_row w1 g 8 _ _ KS;have oT:=(dD oW.out KS).1;rw[←bp,←HT.out] at pf;obtain⟨A1,c1,rfl,aaG,Si⟩:=bw pf);have tY:=ti oW.out KS (.slice A1 T.length c1);have KT:=pf.setCell (p:=⟨g,8,none⟩) (fun r hr e=>pf.row_ne KS (by decide) r hr e.symm) (.slice A1 T.length c1);have oV:=mY.setCell (p:=⟨g,8,none⟩) hb (.slice A1 T.length c1);obtain⟨w2,kT⟩:∃w2,w2=w1.setCell ⟨g,8,none⟩ (.slice A1 T.length c1):=⟨_,rfl⟩;rw[←kT] at tY KT oV
 have G4:Sx g w2 A1 (B8 T):=fun hn=>by
  have hs:=KT.sl hn;obtain⟨b,o,e,hb,hc⟩:=hs;subst e;refine⟨b,o,rfl,?_,hb,hc⟩;refine KT.row_ne tY (by decide) b ?_;simp[aY];simp at hn;omega
 have mo:=oV.size;have KU:g<w2.heap.size:=(adg.1 tY).1;rw[←kT];have Xc:=ab KT;clear kT KT mY bH kS zJ iH AL c8 c9 Xb oT pf q3 Q1 Q2 KS c8' c9' aaE hf8 hf9 G3 aaF KR;refine(AJ w2).mono ?_;rintro e w3 ⟨rfl,sO⟩;obtain⟨kc,oR⟩:∃kc,kc=(cg sN).toArray:=⟨_,rfl⟩;have Xd:=(sO.block g KU).trans tY;have Qw:=G4.below sO;have KV:=oV.trans (sO.mono (by omega));have KW:=sO.size;rw[←oR];have eD:kc.size=64:=by rw[oR];simp[jw]
 have h1:kc.all (·.oneCell')=true:=by rw[oR];simp[cg];intro x _;rfl
 have lU:(Tryz.prog.info? 165).map (·.size)=some kc.size:=by rw[eD];kernel_rfl
 have JS:=ab oR;have nn:=ab eD;have H1:=ab h1;have fe:=ab lU;clear oR eD h1 lU;go_wp2_with (first|(refine ado rfl 165 (.tmp 4) (.tmp 36) rfl w3.heap.size kc rfl rfl 165 _ (adk w3 _) fe.out nn.out.symm H1.out ?_) );rw[adJ];obtain⟨w4,DK⟩:=ae (w3.alloc (.cells kc 165));have Sj:w4.heap[w3.heap.size]?=some (.cells (cg sN).toArray 165 (0,0)):=by rw[DK,←JS.out];exact adk w3 _
 have G5:w4.heap[g]?=some (.cells (SC st (.slice A1 T.length c1) (.int .u64 n') (.bool true)) 125 (0,0)):=by rw[DK];exact(Below.heap_alloc w3 _ g (by omega)).trans Xd
 have Sk:Sx g w4 A1 (B8 T):=by rw[DK];exact Qw.alloc _
 have hB4:Below base w w4:=by rw[DK];exact KV.alloc (by omega) _
 rw[←DK];obtain⟨gk,th⟩:=ae w3.heap.size;rw[←th] at Sj⊢;have bN:g≠gk:=by omega
 have HO4:Hid (Ow w4 base 5 (.slice A1 T.length c1) (B8 T)):=ab (by rw[DK];exact(Xc.out.below sO (by omega)).alloc _);have HG4:=ab G5;have Hk4:=ab Sj;clear th DK G5 Sj Qw KV Xd G4 oV tY;have G6:T.length≤8192:=by rw[HT.out,adv];omega
 simp only[Act.put]
 go_loopw [] (fun wr=>∃j A' c',64*j≤T.length∧T.length-64*j≤c'∧c'≤maxLen∧Sx g wr A' (B8 (T.drop (64*j)))∧wr.heap[g]?=some (.cells (SC (mq st T j) (.slice A' (T.length-64*j) c') (.int .u64 n') (.bool true)) 125 (0,0))∧
  wr.heap[gk]?=some (.cells (cg sN).toArray 165 (0,0))∧Hid (j=0→Ow wr base 5 (.slice A' T.length c') (B8 T))∧Below base w wr) (fun wr=>la g wr)
 case atStart=>exact⟨0,A1,c1,by omega,by omega,Si,by simpa using Sk,by simpa [mq] using HG4.out,Hk4.out,ab (fun _=>HO4.out),hB4⟩
 case round=>
  obtain⟨j,A',c',hj,AM,DL,hX,hG,hK,HOw,hB⟩:=hrel;obtain⟨d8,d9,d10,df⟩:=dD (by rw[b7];exact oW.out) hG;obtain⟨r,hr⟩:∃r,r=T.length-64*j:=⟨_,rfl⟩;rw[←hr] at d8 AM;have HG:=ab hG;have HK:=ab hK;have Hr:=ab hr;clear hG hK df hr
  by_cases aV:64≤r
  · have bx:Tryz.prog.follows .mixedOrders=true:=by kernel_rfl
    go_wp2_with fail;refine aE [(0,0),(1,0),(2,0),(3,0),(4,0),(5,0),(6,1),(7,0),(8,2)] 8 bx (by kernel_rfl) (by intro c a d v w h;cases d<;>exact h) ?_
    repeat ((first|(refine ao rfl (fun K hK=>?_))|(refine aD rfl (fun K hK=>?_)));go_simp;(first|(refine hK _ ?_)|(simp only[IntWalk.iteOmega];go_simp;refine hK _ ?_) );clear hK K;(try go_bits))
    refine ah rfl rfl (fun K hK=>?_);go_wp2_with fail;obtain⟨bl,qP⟩:∃bl,bl=(T.drop (64*j)).take 64:=⟨_,rfl⟩;have KX:bl.length=64:=by rw[qP];have:=Hr.out;simp;omega
    have JY:Sl wr wr.heap.size A' (B8 bl):=by rw[qP,jg];exact(hX.take 64).sl
    have G8:=HG.out;rw[←Hr.out] at G8;refine(AH g gk _ _ (mq st T j) (by rw[b7];exact oW.out) [.slice A' r c',.int .u64 n',.bool true] sN jw A' c' bl KX wr.drew G8 HK.out bN JY).mono ?_;rintro e wS ⟨rfl,Sm,yu⟩;rw[qP] at Sm;have DM:wS.heap[g]?=some (.cells (SC (mq st T (j+1)) (.slice A' r c') (.int .u64 n') (.bool true)) 125 (0,0)):=Sm;have hXS:=(show Sx g wr.drew A' (B8 (T.drop (64*j))) from hX).grown yu;have hBS:=hB.drew.grown yu (by have:wr.drew.heap.size=wr.heap.size:=rfl;have:=hB.size;omega) (fun r hr=>by injection hr with hr;omega);have Xe:wS.heap[gk]?=_:=(yu.block gk (adg.1 HK.out).1 (fun e=>bN (by injection e with e;exact e.symm))).trans HK.out;obtain⟨e8,_,_,ef⟩:=dD (by rw[b7];exact oW.out) DM;have ef8:=ef 8;have WI:=ab DM;have HKS:=ab Xe;clear Sm DM Xe yu ef qP KX JY G8;go_wp2_with fail;refine⟨.inl (by decide),aB ?_⟩;go_wp2_with fail;have hlen:(B8 (T.drop (64*j))).length=r:=by have:=Hr.out;simp;omega
    have Xf:=hXS.cutf (k:=64) (cap:=c') (fun x=>⟨x.block,x.off+64,none⟩) (fun _ _=>rfl) (by omega) (by omega);rw[←kU,List.drop_drop,←Nat.mul_succ] at Xf;have e1:T.length-64*(j+1)=r-64:=by have:=Hr.out;omega
    have AN:(mq st T (j+1)).length=8:=by rw[b7];exact oW.out
    have Xg:=ti AN WI.out (.slice (if c'=64 then A' else A'.map fun x=>⟨x.block,x.off+64,none⟩) (r-64) (c'-64));have m1:la g wr=r:=by simp[la,d8]
    have m2:=(dD AN Xg).1;refine⟨⟨j+1,_,c'-64,by have:=Hr.out;omega,by omega,by omega,Xf.setCell 8 _,by rw[e1];exact Xg,(Below.heap_setCell wS _ _ gk (fun e=>bN e.symm)).trans HKS.out,ab (fun h=>by omega),hBS.setCell (p:=⟨g,8,none⟩) hb _⟩,?_⟩;rw[m1,la,m2];show r-64<r;omega
  go_wp2_with fail;have er:=Hr.out;have e1:T.length/64=j:=by omega
  have e2:T.length%64=r:=by omega
  have G8:=HG.out;rw[←er] at G8;refine bodyPost_end (results_none rfl _ _ _) rfl ?_;refine⟨rfl,hB,A',c',?_,DL,?_,?_,fun KY=>?_⟩
  · rw[←HT.out,e2];exact AM
  · rw[←HT.out,e1];exact hX
  · rw[←HT.out,e1,e2,←Hn.out];exact G8
  rw[←HT.out] at KY⊢;exact HOw.out (by omega)
theorem yv (g base:Nat) (z:List (BitVec 32)) (hz:z.length=8) (wv:Value) (ws bs:List UInt8) (n:Nat) (A:Option Addr) (c:Nat) (w:World)
 (hb:base≤g) (hg:w.heap[g]?=some (.cells (SC z wv (.int .u64 n) (.bool false)) 125 (0,0))) (l0:base≤w.heap.size)
 (C6:Ow w base 5 wv (B8 ws)) (hs:Sx g w A (B8 bs)) (hn:n+bs.length≤8192) (OF:ws.length+bs.length≤8192) (jT:bs.length≤c) (hc:c≤maxLen):
 Calls Tryz.prog 73 #[.pointer (some ⟨g,0,none⟩),.slice A bs.length c] w fun e W'=>e=.returned (.tuple #[])∧Below base w W'∧
  ∃A' c',(ws++bs).length%64≤c'∧c'≤maxLen∧Sx g W' A' (B8 ((ws++bs).drop (64*((ws++bs).length/64))))∧
   W'.heap[g]?=some (.cells (SC (mq oH (ws++bs) ((ws++bs).length/64)) (.slice A' ((ws++bs).length%64) c') (.int .u64 (n+bs.length:Nat)) (.bool true)) 125 (0,0))∧((ws++bs).length<64→Ow W' base 5 (.slice A' (ws++bs).length c') (B8 (ws++bs))):=by
 obtain⟨c8,c9,c10,wV⟩:=dD hz hg;have kr:g<w.heap.size:=(adg.1 hg).1;obtain⟨Aw,cw,rfl⟩:∃Aw cw,wv=.slice Aw ws.length cw:=by obtain⟨Aw,cw,e,_⟩:=C6;exact⟨Aw,cw,by simpa using e⟩
 obtain⟨n',Ks⟩:∃n':Nat,n'=n+bs.length:=⟨_,rfl⟩;have en:(n:Int)+(bs.length:Int)=(n':Int):=by omega
 have q1:(B8 ws).length+bs.length≤maxLen:=by simp[maxLen];omega
 have q2:((B8 ws).length+bs.length)*1≤140737488355328:=by simp;omega
 obtain⟨T,hT⟩:∃T,T=ws++bs:=⟨_,rfl⟩;obtain⟨st,fT⟩:=ae oH;have AN:st.length=8:=by rw[fT];rfl
 obtain⟨sc,G9⟩:∃sc,sc=(cg st).toArray:=⟨_,rfl⟩;have Sn:sc.size=8:=by rw[G9];simp[AN]
 have h1:sc.all (·.oneCell')=true:=by rw[G9];simp[cg];intro x _;rfl
 have lU:(Tryz.prog.info? 123).map (·.size)=some sc.size:=by rw[Sn];kernel_rfl
 rw[←fT];have HT:=ab hT;have Hg0:=ab hg;have Hz:=ab hz;have Hn:=ab Ks;have Q1:=ab q1;have Q2:=ab q2;have HS:=ab fT;have oW:=ab AN;have Hsc:=ab G9;have aaH:=ab Sn;have H1:=ab h1;have fe:=ab lU;clear hg hz wV Ks q1 q2 hT fT AN G9 Sn h1 lU;go_enter Tryz.func73,Tryz.ntmps73;go_wp2_with fail;refine(G2 w).mono ?_;rintro e wb ⟨rfl,OG⟩;rw[←HS.out,←Hsc.out];have zK:=(OG.block g kr).trans Hg0.out;have So:=C6.below OG (adi _);have hsB:=hs.below OG
 have ht:wb.there g 0 sc.size:=fun j hj=>⟨by
  rw[adn wb g _ _ _ (0,0) zK];have:=aaH.out;rw[Array.getElem?_eq_getElem (by simp[SC,Hz.out];omega)];rfl,frozen_of_row wb g _ _ _ zK⟩
 have Ht:=ab ht;clear ht
 have facts:∀wp,wp=wb.setCells g 0 sc.toList→wp.cell? ⟨g,8,none⟩=some (.slice Aw ws.length cw)∧wp.cell? ⟨g,9,none⟩=some (.int .u64 n)∧wp.cell? ⟨g,10,none⟩=some (.bool false)∧wp.frozen? ⟨g,8,none⟩=false∧wp.frozen? ⟨g,9,none⟩=false∧wp.frozen? ⟨g,10,none⟩=false∧
  ∃wq,wq=(wp.setCell ⟨g,10,none⟩ (.bool true)).setCell ⟨g,9,none⟩ (.int .u64 n')∧wq.heap[g]?=some (.cells (SC st (.slice Aw ws.length cw) (.int .u64 n') (.bool true)) 125 (0,0))∧Ow wq base 5 (.slice Aw ws.length cw) (B8 ws)∧Sl wq wq.heap.size A (B8 bs)∧Below base w wq∧(∀r,aY (.slice Aw ws.length cw)=some r→r≠g):=fun wp Vo=>by
  have hGp:wp.heap[g]?=some (.cells (SC st (.slice Aw ws.length cw) (.int .u64 n) (.bool false)) 125 (0,0)):=by
   rw[Vo,Hsc.out];exact Sh Hz.out oW.out zK
  have jI:wb.grownBy wp (some g):=by rw[Vo];exact nw g _ _ _
  have bN:=So.row_ne zK (by decide);have hO:=So.kept jI (fun r hr e=>bN r hr (by injection e with e;exact e.symm));have hS:=hsB.grown jI;have hB:=(OG.mono l0).grown jI (Nat.le_trans l0 OG.size) (fun r hr=>by injection hr with hr;omega);obtain⟨d8,d9,d10,df⟩:=dD oW.out hGp;refine⟨d8,d9,d10,df 8,df 9,df 10,_,rfl,FB oW.out (KQ oW.out hGp _) _,?_,((hS.setCell 10 _).setCell 9 _).sl,(hB.setCell (p:=⟨g,10,none⟩) hb _).setCell (p:=⟨g,9,none⟩) hb _,bN⟩;exact(hO.setCell (p:=⟨g,10,none⟩) (fun r hr e=>bN r hr e.symm) _).setCell (p:=⟨g,9,none⟩) (fun r hr e=>bN r hr e.symm) _
 go_wp2_with (first|(refine wpList_store_mid rfl 123 (.tmp 14) (.tmp 12) rfl g 0 sc rfl rfl Ht.out fe.out H1.out ?_;obtain⟨wp,Vo⟩:=ae (wb.setCells g 0 sc.toList);rw[←Vo];obtain⟨d8,d9,d10,f8,f9,f10,wq,Sp,Hgq,AL,iH,bH,DJ⟩:=facts wp Vo;have HWQ:=ab Sp;have Hg:=ab Hgq;have KR:=ab DJ;clear Vo Sp Hgq DJ facts OG zK So hsB Ht)|(at_builtin;go_loud (rw[←HWQ.out];have q3:base≤wq.heap.size:=Nat.le_trans l0 bH.size;refine aX (m:=bs.length) (c:=c) (base:=base) (xs:=B8 ws) (v:=.slice Aw ws.length cw) (A:=A) (B:=wq.heap.size) (news:=B8 bs) lC rfl (.tmp 31) (.tmp 32) rfl rfl AL rfl iH (B8_length _) (aR _) Q1.out Q2.out q3 ?_);intro v1 w1 pf kS zJ;have mY:=bH.grown kS q3 (fun r hr=>(AL.row r hr).1);have KS:=(kS.block g (adg.1 Hg.out).1 (fun e=>KR.out g e.symm rfl)).trans Hg.out;have Xb:=frozen_of_row w1 g 8 _ _ KS;have oT:=(dD oW.out KS).1;rw[←bp,←HT.out] at pf;obtain⟨A1,c1,rfl,aaG,Si⟩:=bw pf));have tY:=ti oW.out KS (.slice A1 T.length c1);have KT:=pf.setCell (p:=⟨g,8,none⟩) (fun r hr e=>pf.row_ne KS (by decide) r hr e.symm) (.slice A1 T.length c1);have oV:=mY.setCell (p:=⟨g,8,none⟩) hb (.slice A1 T.length c1);obtain⟨w2,kT⟩:∃w2,w2=w1.setCell ⟨g,8,none⟩ (.slice A1 T.length c1):=⟨_,rfl⟩;rw[←kT] at tY KT oV
 have G4:Sx g w2 A1 (B8 T):=fun hn=>by
  have hs:=KT.sl hn;obtain⟨b,o,e,hb,hc⟩:=hs;subst e;refine⟨b,o,rfl,?_,hb,hc⟩;refine KT.row_ne tY (by decide) b ?_;simp[aY];simp at hn;omega
 have mo:=oV.size;have KU:g<w2.heap.size:=(adg.1 tY).1;rw[←kT];have Xc:=ab KT;clear kT KT mY bH kS zJ iH AL c8 c9 Xb oT pf q3 Q1 Q2 KS d8 d9 d10 f8 f9 f10 KR HWQ;refine(AJ w2).mono ?_;rintro e w3 ⟨rfl,sO⟩;obtain⟨kc,oR⟩:∃kc,kc=(cg sN).toArray:=⟨_,rfl⟩;have Xd:=(sO.block g KU).trans tY;have Qw:=G4.below sO;have KV:=oV.trans (sO.mono (by omega));have KW:=sO.size;rw[←oR];have eD:kc.size=64:=by rw[oR];simp[jw]
 have h1:kc.all (·.oneCell')=true:=by rw[oR];simp[cg];intro x _;rfl
 have lU:(Tryz.prog.info? 165).map (·.size)=some kc.size:=by rw[eD];kernel_rfl
 have JS:=ab oR;have nn:=ab eD;have H1:=ab h1;have fe:=ab lU;clear oR eD h1 lU;go_wp2_with (first|(refine ado rfl 165 (.tmp 4) (.tmp 36) rfl w3.heap.size kc rfl rfl 165 _ (adk w3 _) fe.out nn.out.symm H1.out ?_) );rw[adJ];obtain⟨w4,DK⟩:=ae (w3.alloc (.cells kc 165));have Sj:w4.heap[w3.heap.size]?=some (.cells (cg sN).toArray 165 (0,0)):=by rw[DK,←JS.out];exact adk w3 _
 have G5:w4.heap[g]?=some (.cells (SC st (.slice A1 T.length c1) (.int .u64 n') (.bool true)) 125 (0,0)):=by rw[DK];exact(Below.heap_alloc w3 _ g (by omega)).trans Xd
 have Sk:Sx g w4 A1 (B8 T):=by rw[DK];exact Qw.alloc _
 have hB4:Below base w w4:=by rw[DK];exact KV.alloc (by omega) _
 rw[←DK];obtain⟨gk,th⟩:=ae w3.heap.size;rw[←th] at Sj⊢;have bN:g≠gk:=by omega
 have HO4:Hid (Ow w4 base 5 (.slice A1 T.length c1) (B8 T)):=ab (by rw[DK];exact(Xc.out.below sO (by omega)).alloc _);have HG4:=ab G5;have Hk4:=ab Sj;clear th DK G5 Sj Qw KV Xd G4 oV tY;have G6:T.length≤8192:=by rw[HT.out,adv];omega
 simp only[Act.put]
 go_loopw [] (fun wr=>∃j A' c',64*j≤T.length∧T.length-64*j≤c'∧c'≤maxLen∧Sx g wr A' (B8 (T.drop (64*j)))∧wr.heap[g]?=some (.cells (SC (mq st T j) (.slice A' (T.length-64*j) c') (.int .u64 n') (.bool true)) 125 (0,0))∧
  wr.heap[gk]?=some (.cells (cg sN).toArray 165 (0,0))∧Hid (j=0→Ow wr base 5 (.slice A' T.length c') (B8 T))∧Below base w wr) (fun wr=>la g wr)
 case atStart=>exact⟨0,A1,c1,by omega,by omega,Si,by simpa using Sk,by simpa [mq] using HG4.out,Hk4.out,ab (fun _=>HO4.out),hB4⟩
 case round=>
  obtain⟨j,A',c',hj,AM,DL,hX,hG,hK,HOw,hB⟩:=hrel;obtain⟨d8,d9,d10,df⟩:=dD (by rw[b7];exact oW.out) hG;obtain⟨r,hr⟩:∃r,r=T.length-64*j:=⟨_,rfl⟩;rw[←hr] at d8 AM;have HG:=ab hG;have HK:=ab hK;have Hr:=ab hr;clear hG hK df hr
  by_cases aV:64≤r
  · have bx:Tryz.prog.follows .mixedOrders=true:=by kernel_rfl
    go_wp2_with fail;refine aE [(0,0),(1,0),(2,0),(3,0),(4,0),(5,0),(6,1),(7,0),(8,2)] 8 bx (by kernel_rfl) (by intro c a d v w h;cases d<;>exact h) ?_
    repeat ((first|(refine ao rfl (fun K hK=>?_))|(refine aD rfl (fun K hK=>?_)));go_simp;(first|(refine hK _ ?_)|(simp only[IntWalk.iteOmega];go_simp;refine hK _ ?_) );clear hK K;(try go_bits))
    refine ah rfl rfl (fun K hK=>?_);go_wp2_with fail;obtain⟨bl,qP⟩:∃bl,bl=(T.drop (64*j)).take 64:=⟨_,rfl⟩;have KX:bl.length=64:=by rw[qP];have:=Hr.out;simp;omega
    have JY:Sl wr wr.heap.size A' (B8 bl):=by rw[qP,jg];exact(hX.take 64).sl
    have G8:=HG.out;rw[←Hr.out] at G8;refine(AH g gk _ _ (mq st T j) (by rw[b7];exact oW.out) [.slice A' r c',.int .u64 n',.bool true] sN jw A' c' bl KX wr.drew G8 HK.out bN JY).mono ?_;rintro e wS ⟨rfl,Sm,yu⟩;rw[qP] at Sm;have DM:wS.heap[g]?=some (.cells (SC (mq st T (j+1)) (.slice A' r c') (.int .u64 n') (.bool true)) 125 (0,0)):=Sm;have hXS:=(show Sx g wr.drew A' (B8 (T.drop (64*j))) from hX).grown yu;have hBS:=hB.drew.grown yu (by have:wr.drew.heap.size=wr.heap.size:=rfl;have:=hB.size;omega) (fun r hr=>by injection hr with hr;omega);have Xe:wS.heap[gk]?=_:=(yu.block gk (adg.1 HK.out).1 (fun e=>bN (by injection e with e;exact e.symm))).trans HK.out;obtain⟨e8,_,_,ef⟩:=dD (by rw[b7];exact oW.out) DM;have ef8:=ef 8;have WI:=ab DM;have HKS:=ab Xe;clear Sm DM Xe yu ef qP KX JY G8;go_wp2_with fail;refine⟨.inl (by decide),aB ?_⟩;go_wp2_with fail;have hlen:(B8 (T.drop (64*j))).length=r:=by have:=Hr.out;simp;omega
    have Xf:=hXS.cutf (k:=64) (cap:=c') (fun x=>⟨x.block,x.off+64,none⟩) (fun _ _=>rfl) (by omega) (by omega);rw[←kU,List.drop_drop,←Nat.mul_succ] at Xf;have e1:T.length-64*(j+1)=r-64:=by have:=Hr.out;omega
    have AN:(mq st T (j+1)).length=8:=by rw[b7];exact oW.out
    have Xg:=ti AN WI.out (.slice (if c'=64 then A' else A'.map fun x=>⟨x.block,x.off+64,none⟩) (r-64) (c'-64));have m1:la g wr=r:=by simp[la,d8]
    have m2:=(dD AN Xg).1;refine⟨⟨j+1,_,c'-64,by have:=Hr.out;omega,by omega,by omega,Xf.setCell 8 _,by rw[e1];exact Xg,(Below.heap_setCell wS _ _ gk (fun e=>bN e.symm)).trans HKS.out,ab (fun h=>by omega),hBS.setCell (p:=⟨g,8,none⟩) hb _⟩,?_⟩;rw[m1,la,m2];show r-64<r;omega
  go_wp2_with fail;have er:=Hr.out;have e1:T.length/64=j:=by omega
  have e2:T.length%64=r:=by omega
  have G8:=HG.out;rw[←er] at G8;refine bodyPost_end (results_none rfl _ _ _) rfl ?_;refine⟨rfl,hB,A',c',?_,DL,?_,?_,fun KY=>?_⟩
  · rw[←HT.out,e2];exact AM
  · rw[←HT.out,e1];exact hX
  · rw[←HT.out,e1,e2,←Hn.out];exact G8
  rw[←HT.out] at KY⊢;exact HOw.out (by omega)
end Go.Proofs.YtnlkdheaohocnaaGreatDoor
namespace Go.Proofs.YtnlkdheaohocnaaGreatDoor
open Go.RowKit Go.Shelf
section
variable {P:Program} {ops:Array Oper} {Q:Act→World→Prop} {st:Nat→(Act→World→Prop)→Act→World→Prop} {N:Nat}
theorem hJ {i:Nat} {rest:List (Nat×Nat)} {o:Oper} {a:Act} {w:World} (ho:ops[i]?=some o) (hg:o.guard=none) (ty:TypeId) (x:Operand) (cK:o.op=.load ty x)
 (b off:Nat) (hx:a.eval x=.pointer (some ⟨b,off,none⟩)) (cs:List Value) (d:TypeDesc) (hc:w.rangeAt b off cs) (hu:P.underlying ty=some d) (hd:d.isRow=true) (hi:(P.info? ty).map (·.size)=some cs.length)
 (h:aI P ops Q st N rest (a.put o.dst (.agg cs.toArray)) w):aI P ops Q st N ((i,1)::rest) a w:=by
 simp only[aI,if_true,ho,Nat.one_ne_zero,if_false];exact⟨_,yieldsIf_load_mid (by simp[Region.wanted,hg]) ty x cK b off hx cs d (fun w' GA j v hv=>(GA.below.cell (World.block_lt_of_cell? w _ (hc j v hv))).trans (hc j v hv)) hu hd hi,h⟩
theorem pU {i:Nat} {rest:List (Nat×Nat)} {o:Oper} {a:Act} {w:World} (ho:ops[i]?=some o) (hg:o.guard=none) (t:TypeId) (parts:Array (Nat×Operand)) (cK:o.op=.build t parts) (cells:Array Value)
 (hc:P.built t (parts.map fun (i,x)=>(i,a.eval x)).toList=some cells) (h:aI P ops Q st N rest (a.put o.dst (.agg cells)) w):aI P ops Q st N ((i,0)::rest) a w:=by
 simp only[aI,if_true,ho];refine⟨_,.inl ⟨by simp[Region.wanted,hg],fun w' _=>?_⟩,h⟩;unfold execOp;simp only[cK,Sem.run_bind,run_build w' t _ cells hc,Result.andThen_ok];rfl
end
theorem Ow.sx {w:World} {base E g n c:Nat} {A:Option Addr} {xs:List Value} (h:Ow w base E (.slice A n c) xs) (hg:g<base):Sx g w A xs:=fun hn=>by
 obtain⟨b,o,e2,hb,hc⟩:=h.sl hn;obtain⟨A',c',e,h1,h2,h3⟩:=h;injection e with e1 e3 e4;obtain⟨g',cur,e,Vc,_⟩:=h3 (by omega);rw[←e1] at e;rw[e] at e2;injection e2 with e2;injection e2 with e2 e5;subst e2 e5;exact⟨g',0,e,by omega,hb,hc⟩
theorem pV (w:World) (g:Nat) (cs:Array Value):w.grownBy (w.setRow g cs) (some g):=⟨rfl,rfl,rfl,by simp,fun k _ bN=>setRow_other w g k cs (fun e=>bN (by rw[e]))⟩
theorem K1 (st:List (BitVec 32)) (A:Option Addr) (m c:Nat) (k:Int) (b:Bool):(SC st (.slice A m c) (.int .u64 k) (.bool b)).all (·.oneCell')=true:=all_oneCell_toArray fun v hv=>by
 simp only[List.mem_append,cg,List.mem_map] at hv;rcases hv with ⟨x,_,rfl⟩|hv
 · rfl
 simp at hv;rcases hv with rfl|rfl|rfl<;>rfl
def jW (st:List (BitVec 32)):List UInt8:=st.flatMap fun x=>[UInt8.ofNat (x.toNat/16777216),UInt8.ofNat (x.toNat/65536),UInt8.ofNat (x.toNat/256),UInt8.ofNat x.toNat]
theorem lg (st:List (BitVec 32)):(jW st).length=4*st.length:=by
 induction st with
 |nil=>rfl
 |cons x st ih=>simp[jW] at ih⊢;omega
theorem AO (st:List (BitVec 32)) (k:Nat) (h:k<st.length):(jW st)[4*k]?=some (UInt8.ofNat (st[k].toNat/16777216))∧(jW st)[4*k+1]?=some (UInt8.ofNat (st[k].toNat/65536))∧
 (jW st)[4*k+2]?=some (UInt8.ofNat (st[k].toNat/256))∧(jW st)[4*k+3]?=some (UInt8.ofNat st[k].toNat):=by
 induction st generalizing k with
 |nil=>simp at h
 |cons x st ih=>
  cases k with
  |zero=>simp[jW]
  |succ k=>
   have:=ih k (by simpa using h);simp only[jW,List.flatMap_cons,List.getElem_cons_succ] at this⊢;rw[show 4*(k+1)=4*k+4 by omega,show 4*k+4+1=4*k+1+4 by omega,show 4*k+4+2=4*k+2+4 by omega,show 4*k+4+3=4*k+3+4 by omega];simpa using this
theorem AP (g:Nat) (st:List (BitVec 32)) (fT:st.length=8) (A:Option Addr) (c:Nat) (wb:List UInt8) (n:Nat) (w:World)
 (hg:w.heap[g]?=some (.cells (SC st (.slice A wb.length c) (.int .u64 n) (.bool true)) 125 (0,0))) (hX:Sx g w A (B8 wb)) (hn:n≤4096) (OH:wb.length≤64) (K2:wb.length≤c) (hc:c≤maxLen):
 Calls Tryz.prog 114 #[.pointer (some ⟨g,0,none⟩)] w fun e W'=>e=.returned (.agg (B8 (jW (mq st (wb++eF n 8) ((wb++eF n 8).length/64)))).toArray)∧Below w.heap.size w W':=by
 obtain⟨s0,s1,s2,s3,s4,s5,s6,s7,rfl⟩:∃s0 s1 s2 s3 s4 s5 s6 s7,st=[s0,s1,s2,s3,s4,s5,s6,s7]:=by
  match st,fT with
  |[s0,s1,s2,s3,s4,s5,s6,s7],_=>exact⟨s0,s1,s2,s3,s4,s5,s6,s7,rfl⟩
 clear fT;have kr:g<w.heap.size:=(adg.1 hg).1;have Hg0:=ab hg;have bx:Tryz.prog.follows .mixedOrders=true:=by kernel_rfl
 clear hg;go_enter Tryz.func114,Tryz.ntmps114;go_wp2_with fail;obtain⟨w1,fu⟩:∃w1,w1=w.alloc (.cells (Array.replicate 32 (.int .u8 0)) 25):=⟨_,rfl⟩;have lh:w1.heap[w.heap.size]?=some (.cells (Array.replicate 32 (.int .u8 0)) 25 (0,0)):=by rw[fu];exact adk w _
 have kq:=(show w1.heap[g]?=w.heap[g]? by rw[fu];exact Below.heap_alloc w _ g kr).trans Hg0.out;have Qx:Sx g w1 A (B8 wb):=by rw[fu];exact hX.alloc _
 have mY:Below w.heap.size w w1:=by rw[fu];exact(adl _ w).alloc (adi _) _
 refine(show w1=_ from fu)▸?_;obtain⟨d8,d9,d10,df⟩:=dD rfl kq
 have kS:w1.rangeAt g 0 (cg [s0,s1,s2,s3,s4,s5,s6,s7]):=fun j v hv=>by
  rw[Nat.zero_add,adn w1 g j _ _ (0,0) kq,SC];have hj:j<(cg [s0,s1,s2,s3,s4,s5,s6,s7]).length:=(adE.1 hv).1;rw[List.getElem?_toArray,adG hj];exact hv
 have NO:=ab kS;have Hg1:=ab kq;have sj:=ab lh;clear fu kq kS lh df;refine iL [(0,0),(1,0),(2,0),(3,1),(4,0),(5,0),(6,0),(7,1),(9,0),(10,0),(11,0),(12,1),(13,0),(14,0),(15,0),(16,1)] 3 [(8,[(17,0),(18,2),(19,2)]),(18,[(8,2),(17,0),(19,2)])] 19 bx (by kernel_rfl) (by intro c a d v w h;cases d<;>exact h) ?_
 iterate 3 (refine ao rfl (fun K hK=>?_);go_simp;refine hK _ ?_;clear hK K)
 refine hJ rfl rfl 123 (.tmp 9) rfl g 0 rfl _ (.array 8 27) NO.out (by kernel_rfl) rfl (by kernel_rfl) ?_;go_simp
 repeat ((first|(refine ao rfl (fun K hK=>?_))|(refine aD rfl (fun K hK=>?_)));go_simp;(first|(refine hK _ ?_) );clear hK K;(try go_bits))
 refine lf rfl rfl rfl rfl (fun K hK=>?_) (fun K hK=>?_)
 · go_wp2_with fail
   refine(j4 A c wb w1.drew Qx.sl (by omega)).mono ?_;rintro e w2 ⟨v,rfl,ho,hb⟩;obtain⟨Av,cv,rfl,JR,aaI⟩:=bw ho;go_wp2_with fail;refine⟨av hb,?_⟩;refine pU rfl rfl 125 _ rfl (SC [s0,s1,s2,s3,s4,s5,s6,s7] (.slice Av wb.length cv) (.int .u64 n) (.bool true)) (by kernel_rfl) ?_;go_simp;refine ah rfl rfl (fun K hK=>?_);go_wp2_with fail;refine⟨.inr (bq _ _),?_⟩;refine ah rfl rfl (fun K hK=>?_);refine wp_store_row 125 (.tmp 3) (.tmp 24) rfl w2.heap.size (SC [s0,s1,s2,s3,s4,s5,s6,s7] (.slice Av wb.length cv) (.int .u64 n) (.bool true)) rfl rfl 125 _ (adk w2 _) (by kernel_rfl) rfl (K1 _ _ _ _ _ _) ?_;rw[adJ];refine hK _ _ ⟨.inl (by decide),aB ?_⟩;clear hK K;simp only[Act.put];obtain⟨gt,DN⟩:=ae w2.heap.size;rw[←DN];obtain⟨wN,eg⟩:∃wN,wN=w2.alloc (.cells (SC [s0,s1,s2,s3,s4,s5,s6,s7] (.slice Av wb.length cv) (.int .u64 n) (.bool true)) 125):=⟨_,rfl⟩;rw[←eg];have OI:wN.heap[gt]?=some (.cells (SC [s0,s1,s2,s3,s4,s5,s6,s7] (.slice Av wb.length cv) (.int .u64 n) (.bool true)) 125 (0,0)):=by rw[eg,DN];exact adk w2 _
   have hOv:Ow wN w1.heap.size 5 (.slice Av wb.length cv) (B8 wb):=by rw[eg];exact Ow.alloc (base:=w1.heap.size) ho _
   have zA:Below w1.heap.size w1 w2:=⟨hb.os,hb.tape,hb.output,hb.size,hb.block⟩;have Hu:Below w1.heap.size w1 wN:=by rw[eg];exact zA.alloc zA.size _
   have OJ:w1.heap.size≤gt:=by rw[DN];exact zA.size
   have rl:=Hg1.out;clear eg DN hb ho zA;have K3:gt<wN.heap.size:=(adg.1 OI).1;have oS:w.heap.size<w1.heap.size:=(adg.1 sj.out).1;have jx:=(Hu.block w.heap.size oS).trans sj.out;have yx:=mY.trans (Hu.mono mY.size);obtain⟨e8,e9,e10,ef⟩:=dD rfl OI;have Xh:=ab OI;have K4:=ab jx;clear OI jx ef d8 d9 d10 Hg1;have mw:wN.heap[g]?=_:=(Hu.block g (by have:=mY.size;omega)).trans rl;obtain⟨d8,d9,d10,df⟩:=dD rfl mw;clear mw df;go_simp;go_wp2_with fail;refine(tO n (by omega) wN).mono ?_;rintro e w3 ⟨tv,rfl,zL,b5⟩;obtain⟨tl,yz⟩:=ae (eF n 8);have xa:tl.length≤72:=by rw[yz,jR n 8 (adi _)];omega
   rw[←yz] at zL;have Htl:=ab yz;clear yz;obtain⟨At,ct,rfl,hct,Sq⟩:=bw zL;have K5:=(b5.block gt K3).trans Xh.out;have Xi:=hOv.below b5 (adi _);have Xj:Sx gt w3 At (B8 tl):=zL.sx K3;go_wp2_with fail;refine(rj gt w1.heap.size [s0,s1,s2,s3,s4,s5,s6,s7] rfl _ wb (tl) n At ct w3 OJ K5 (Nat.le_trans Hu.size b5.size) Xi Xj (by omega) (by omega) hct Sq).mono ?_;rintro e w4 ⟨rfl,gg,A4,c4,C8,Xk,Sk,G5,_⟩;obtain⟨t0,OK⟩:∃t,t=mq [s0,s1,s2,s3,s4,s5,s6,s7] (wb++tl) ((wb++tl).length/64):=⟨_,rfl⟩;have DO:t0.length=8:=by rw[OK,b7];rfl
   have DP:=(Hu.trans (b5.mono Hu.size)).trans gg;have AQ:=(DP.block w.heap.size oS).trans sj.out;have K6:=mY.trans (DP.mono mY.size);have Sr:gt<w4.heap.size:=(adg.1 G5).1
   have zI:w4.rangeAt gt 0 (cg t0):=fun j v hv=>by
    rw[Nat.zero_add,adn w4 gt j _ _ (0,0) G5,SC,←OK];have hj:j<(cg t0).length:=(adE.1 hv).1;rw[List.getElem?_toArray,adG hj];exact hv
   have Ht0:=ab OK;clear OK;have JX:(w4.alloc (.cells (Array.replicate 32 (.int .u8 0)) 25)).rangeAt gt 0 (cg t0):=fun j v hv=>(World.cell?_alloc_lt w4 _ _ (by exact Sr)).trans (zI j v hv)
   have Xl:=ab JX;have K7:=ab AQ;have Ss:Hid ((Tryz.prog.info? 123).map (·.size)=some (cg t0).length):=ab (by rw[W32_length,DO];kernel_rfl);clear zI JX AQ G5 K5 Xi Xj e8 e9 e10 d8 d9 d10 Sk Xh K4 NO zL xa;go_wp2_with (refine wpList_load_mid rfl 123 (.tmp 31) rfl gt 0 rfl (cg t0) (.array 8 27) Xl.out (by kernel_rfl) rfl Ss.out ?_);obtain⟨tc,zC⟩:∃tc,tc=(cg t0).toArray:=⟨_,rfl⟩;rw[←zC];have St:=ab zC;have rn:(jW t0).length=32:=by rw[lg,DO]
   obtain⟨oc,fU⟩:∃oc,oc=(B8 (jW t0)).toArray:=⟨_,rfl⟩;have dv:oc.size=32:=by rw[fU];simp[rn]
   have cG:Hid ((Tryz.prog.info? 25).map (·.size)=some oc.size):=ab (by rw[dv];kernel_rfl);have jy:Hid ((Array.replicate 32 (Value.int .u8 0)).size=oc.size):=ab (by rw[dv];simp);have gn:Hid (oc.all (·.oneCell')=true):=ab (by rw[fU];exact all_oneCell_toArray (aR _));have pH:=ab fU;clear zC yx gg b5 Xl Ss fU dv;go_loopw [33] (fun i wr=>∃k:Nat,k≤8∧i=.int .i64 k∧Fill wr w4.heap.size 25 32 (B8 (jW t0)) (4*k)∧Below w4.heap.size w4 wr) (fun i _=>8-(intOf i).toNat)
   case atStart=>exact⟨0,adF _,rfl,Fill.new' w4 _ 32 (.int .u8 0) _,(adl _ _).alloc (adi _) _⟩
   case round=>
    obtain⟨k,hk,rfl,bn,l0⟩:=hrel
    by_cases aV:k<8
    · obtain⟨x,hx⟩:∃x,x=t0[k]:=⟨_,rfl⟩
      have tX:=ji (P:=Tryz.prog) 123 27 8 tc .i64 k (.int .u32 (x.toNat:Int)) (by kernel_rfl) (by kernel_rfl) (by kernel_rfl) aV (by rw[St.out];simp[cg,DO,aV,hx]);have Vp:=x.isLt;obtain⟨v0,c0⟩:=bn.cell (j:=4*k) (by omega);obtain⟨v1,c1⟩:=bn.cell (j:=4*k+1) (by omega);obtain⟨v2,c2⟩:=bn.cell (j:=4*k+2) (by omega);obtain⟨v3,c3⟩:=bn.cell (j:=4*k+3) (by omega);have z0:=bn.frozen (4*k);have z1:=bn.frozen (4*k+1);have z2:=bn.frozen (4*k+2);have z3:=bn.frozen (4*k+3);have Hx:=ab hx;clear hx;go_wp2_with fail;obtain⟨g0,g1,g2,g3⟩:=AO t0 k (by omega);rw[←Hx.out] at g0 g1 g2 g3
      have b8:∀(j m:Nat),(jW t0)[j]?=some (UInt8.ofNat m)→(B8 (jW t0))[j]?=some (Value.int IntKind.u8 ((m%256:Nat):Int)):=fun j m h=>by
       rw[B8,List.getElem?_map,h];simp
      have f1:=bn.set (by omega) (b8 _ _ g0);have f2:=f1.set (by omega) (b8 _ _ g1);have f3:=f2.set (by omega) (b8 _ _ g2);have f4:=f3.set (by omega) (b8 _ _ g3);have e0:((x.toNat/16777216%256:Nat):Int)=(x.toNat:Int)/16777216:=by omega
      have e1:((x.toNat/65536%256:Nat):Int)=(x.toNat:Int)/65536%256:=by omega
      have e2:((x.toNat/256%256:Nat):Int)=(x.toNat:Int)/256%256:=by omega
      have e3:((x.toNat%256:Nat):Int)=(x.toNat:Int)%256:=by omega
      rw[e0,e1,e2,e3] at f4;have yA:=(((l0.setCell (p:=⟨w4.heap.size,4*k,none⟩) (adi _) (.int .u8 ((x.toNat:Int)/16777216))).setCell (p:=⟨w4.heap.size,4*k+1,none⟩) (adi _) (.int .u8 ((x.toNat:Int)/65536%256))).setCell (p:=⟨w4.heap.size,4*k+2,none⟩) (adi _) (.int .u8 ((x.toNat:Int)/256%256))).setCell (p:=⟨w4.heap.size,4*k+3,none⟩) (adi _) (.int .u8 ((x.toNat:Int)%256));exact⟨⟨k+1,by omega,rfl,f4,yA⟩,by simp[intOf];omega⟩
    obtain rfl:k=8:=by omega
    have dW:=bn.done (by simp[rn]);rw[←pH.out] at dW;have Su:w.heap.size<w4.heap.size:=by have:=K6.size;have:=DP.size;omega
    have AR:=(l0.block w.heap.size Su).trans K7.out;have pW:=ab dW;have sk:=ab AR;clear dW AR bn;go_wp2_with (first|(refine adw rfl 25 (.tmp 4) rfl w4.heap.size rfl 25 oc (0,0) (.array 32 5) pW.out (by kernel_rfl) rfl cG.out ?_)|(refine ado rfl 25 (.tmp 2) (.tmp 64) rfl w.heap.size oc rfl rfl 25 _ sk.out cG.out jy.out gn.out ?_));refine adm (v:=.agg oc) ?_ rfl ⟨by rw[pH.out,Ht0.out,Htl.out],au (K6.trans (l0.mono (by omega))) (adi _) _⟩;exact adr rfl _ _ w.heap.size 25 oc (0,0) (.array 32 5) rfl (adt _ _ _ _ _ _ sk.out) (by kernel_rfl) rfl cG.out
 go_wp2_with fail;refine⟨bq _ _,?_⟩;refine ah rfl rfl (fun K hK=>?_);go_wp2_with fail;refine Calls.mono (j4 A c wb _ ?hs (by omega)) ?_
 case hs=>exact(show Sx g (World.drew (w1.alloc _)) A (B8 wb) from Qx.alloc _).sl
 rintro e w2 ⟨v,rfl,ho,hb⟩;obtain⟨Av,cv,rfl,JR,aaI⟩:=bw ho;go_wp2_with fail;refine⟨.inr (av hb),?_⟩;refine pU rfl rfl 125 _ rfl (SC [s0,s1,s2,s3,s4,s5,s6,s7] (.slice Av wb.length cv) (.int .u64 n) (.bool true)) (by kernel_rfl) ?_;refine ah rfl rfl (fun K hK=>?_);have mw:=(hb.block w1.heap.size (by show w1.heap.size<(w1.alloc _).heap.size;rw[adD];omega)).trans (adk w1 _);refine wp_store_row 125 (.tmp 3) (.tmp 24) rfl w1.heap.size (SC [s0,s1,s2,s3,s4,s5,s6,s7] (.slice Av wb.length cv) (.int .u64 n) (.bool true)) rfl rfl 125 _ mw (by kernel_rfl) rfl (K1 _ _ _ _ _ _) ?_;refine hK _ _ ⟨.inl (by decide),aB ?_⟩;clear hK K;simp only[Act.put];obtain⟨gt,DN⟩:=ae w1.heap.size;rw[←DN];rw[←DN] at mw;obtain⟨wN,eg⟩:=ae (w2.setRow gt (SC [s0,s1,s2,s3,s4,s5,s6,s7] (.slice Av wb.length cv) (.int .u64 n) (.bool true)));rw[←eg];have OJ:w1.heap.size≤gt:=by omega
 have OI:wN.heap[gt]?=some (.cells (SC [s0,s1,s2,s3,s4,s5,s6,s7] (.slice Av wb.length cv) (.int .u64 n) (.bool true)) 125 (0,0)):=by rw[eg];exact adt _ _ _ _ _ _ mw
 have hOv:Ow wN w1.heap.size 5 (.slice Av wb.length cv) (B8 wb):=by
  rw[eg];refine(ho.mono (by show w1.heap.size≤(w1.alloc _).heap.size;rw[adD];omega)).kept (pV w2 gt _) (fun r hr e=>?_);have:=(ho.row r hr).1;injection e with e;rw[show (World.drew (w1.alloc _)).heap.size=w1.heap.size+1 from adD _ _] at this;omega
 have zA:Below w1.heap.size w1 w2:=Below.trans (((adl _ w1).alloc (adi _) _).drew) (hb.mono (by show w1.heap.size≤(w1.alloc _).heap.size;rw[adD];omega));have Hu:Below w1.heap.size w1 wN:=by rw[eg];exact au zA OJ _
 have rl:=Hg1.out;clear eg DN hb ho zA mw;have K3:gt<wN.heap.size:=(adg.1 OI).1;have oS:w.heap.size<w1.heap.size:=(adg.1 sj.out).1;have jx:=(Hu.block w.heap.size oS).trans sj.out;have yx:=mY.trans (Hu.mono mY.size);obtain⟨e8,e9,e10,ef⟩:=dD rfl OI;have Xh:=ab OI;have K4:=ab jx;clear OI jx ef d8 d9 d10 Hg1;have mw:wN.heap[g]?=_:=(Hu.block g (by have:=mY.size;omega)).trans rl;obtain⟨d8,d9,d10,df⟩:=dD rfl mw;clear mw df;go_simp;go_wp2_with fail;refine(tO n (by omega) wN).mono ?_;rintro e w3 ⟨tv,rfl,zL,b5⟩;obtain⟨tl,yz⟩:=ae (eF n 8);have xa:tl.length≤72:=by rw[yz,jR n 8 (adi _)];omega
 rw[←yz] at zL;have Htl:=ab yz;clear yz;obtain⟨At,ct,rfl,hct,Sq⟩:=bw zL;have K5:=(b5.block gt K3).trans Xh.out;have Xi:=hOv.below b5 (adi _);have Xj:Sx gt w3 At (B8 tl):=zL.sx K3;go_wp2_with fail;refine(rj gt w1.heap.size [s0,s1,s2,s3,s4,s5,s6,s7] rfl _ wb (tl) n At ct w3 OJ K5 (Nat.le_trans Hu.size b5.size) Xi Xj (by omega) (by omega) hct Sq).mono ?_;rintro e w4 ⟨rfl,gg,A4,c4,C8,Xk,Sk,G5,_⟩;obtain⟨t0,OK⟩:∃t,t=mq [s0,s1,s2,s3,s4,s5,s6,s7] (wb++tl) ((wb++tl).length/64):=⟨_,rfl⟩;have DO:t0.length=8:=by rw[OK,b7];rfl
 have DP:=(Hu.trans (b5.mono Hu.size)).trans gg;have AQ:=(DP.block w.heap.size oS).trans sj.out;have K6:=mY.trans (DP.mono mY.size);have Sr:gt<w4.heap.size:=(adg.1 G5).1
 have zI:w4.rangeAt gt 0 (cg t0):=fun j v hv=>by
  rw[Nat.zero_add,adn w4 gt j _ _ (0,0) G5,SC,←OK];have hj:j<(cg t0).length:=(adE.1 hv).1;rw[List.getElem?_toArray,adG hj];exact hv
 have Ht0:=ab OK;clear OK;have JX:(w4.alloc (.cells (Array.replicate 32 (.int .u8 0)) 25)).rangeAt gt 0 (cg t0):=fun j v hv=>(World.cell?_alloc_lt w4 _ _ (by exact Sr)).trans (zI j v hv)
 have Xl:=ab JX;have K7:=ab AQ;have Ss:Hid ((Tryz.prog.info? 123).map (·.size)=some (cg t0).length):=ab (by rw[W32_length,DO];kernel_rfl);clear zI JX AQ G5 K5 Xi Xj e8 e9 e10 d8 d9 d10 Sk Xh K4 NO zL xa;go_wp2_with (refine wpList_load_mid rfl 123 (.tmp 31) rfl gt 0 rfl (cg t0) (.array 8 27) Xl.out (by kernel_rfl) rfl Ss.out ?_);obtain⟨tc,zC⟩:∃tc,tc=(cg t0).toArray:=⟨_,rfl⟩;rw[←zC];have St:=ab zC;have rn:(jW t0).length=32:=by rw[lg,DO]
 obtain⟨oc,fU⟩:∃oc,oc=(B8 (jW t0)).toArray:=⟨_,rfl⟩;have dv:oc.size=32:=by rw[fU];simp[rn]
 have cG:Hid ((Tryz.prog.info? 25).map (·.size)=some oc.size):=ab (by rw[dv];kernel_rfl);have jy:Hid ((Array.replicate 32 (Value.int .u8 0)).size=oc.size):=ab (by rw[dv];simp);have gn:Hid (oc.all (·.oneCell')=true):=ab (by rw[fU];exact all_oneCell_toArray (aR _));have pH:=ab fU;clear zC yx gg b5 Xl Ss fU dv;go_loopw [33] (fun i wr=>∃k:Nat,k≤8∧i=.int .i64 k∧Fill wr w4.heap.size 25 32 (B8 (jW t0)) (4*k)∧Below w4.heap.size w4 wr) (fun i _=>8-(intOf i).toNat)
 case atStart=>exact⟨0,adF _,rfl,Fill.new' w4 _ 32 (.int .u8 0) _,(adl _ _).alloc (adi _) _⟩
 case round=>
  obtain⟨k,hk,rfl,bn,l0⟩:=hrel
  by_cases aV:k<8
  · obtain⟨x,hx⟩:∃x,x=t0[k]:=⟨_,rfl⟩
    have tX:=ji (P:=Tryz.prog) 123 27 8 tc .i64 k (.int .u32 (x.toNat:Int)) (by kernel_rfl) (by kernel_rfl) (by kernel_rfl) aV (by rw[St.out];simp[cg,DO,aV,hx]);have Vp:=x.isLt;obtain⟨v0,c0⟩:=bn.cell (j:=4*k) (by omega);obtain⟨v1,c1⟩:=bn.cell (j:=4*k+1) (by omega);obtain⟨v2,c2⟩:=bn.cell (j:=4*k+2) (by omega);obtain⟨v3,c3⟩:=bn.cell (j:=4*k+3) (by omega);have z0:=bn.frozen (4*k);have z1:=bn.frozen (4*k+1);have z2:=bn.frozen (4*k+2);have z3:=bn.frozen (4*k+3);have Hx:=ab hx;clear hx;go_wp2_with fail;obtain⟨g0,g1,g2,g3⟩:=AO t0 k (by omega);rw[←Hx.out] at g0 g1 g2 g3
    have b8:∀(j m:Nat),(jW t0)[j]?=some (UInt8.ofNat m)→(B8 (jW t0))[j]?=some (Value.int IntKind.u8 ((m%256:Nat):Int)):=fun j m h=>by
     rw[B8,List.getElem?_map,h];simp
    have f1:=bn.set (by omega) (b8 _ _ g0);have f2:=f1.set (by omega) (b8 _ _ g1);have f3:=f2.set (by omega) (b8 _ _ g2);have f4:=f3.set (by omega) (b8 _ _ g3);have e0:((x.toNat/16777216%256:Nat):Int)=(x.toNat:Int)/16777216:=by omega
    have e1:((x.toNat/65536%256:Nat):Int)=(x.toNat:Int)/65536%256:=by omega
    have e2:((x.toNat/256%256:Nat):Int)=(x.toNat:Int)/256%256:=by omega
    have e3:((x.toNat%256:Nat):Int)=(x.toNat:Int)%256:=by omega
    rw[e0,e1,e2,e3] at f4;have yA:=(((l0.setCell (p:=⟨w4.heap.size,4*k,none⟩) (adi _) (.int .u8 ((x.toNat:Int)/16777216))).setCell (p:=⟨w4.heap.size,4*k+1,none⟩) (adi _) (.int .u8 ((x.toNat:Int)/65536%256))).setCell (p:=⟨w4.heap.size,4*k+2,none⟩) (adi _) (.int .u8 ((x.toNat:Int)/256%256))).setCell (p:=⟨w4.heap.size,4*k+3,none⟩) (adi _) (.int .u8 ((x.toNat:Int)%256));exact⟨⟨k+1,by omega,rfl,f4,yA⟩,by simp[intOf];omega⟩
  obtain rfl:k=8:=by omega
  have dW:=bn.done (by simp[rn]);rw[←pH.out] at dW;have Su:w.heap.size<w4.heap.size:=by have:=K6.size;have:=DP.size;omega
  have AR:=(l0.block w.heap.size Su).trans K7.out;have pW:=ab dW;have sk:=ab AR;clear dW AR bn;go_wp2_with (first|(refine adw rfl 25 (.tmp 4) rfl w4.heap.size rfl 25 oc (0,0) (.array 32 5) pW.out (by kernel_rfl) rfl cG.out ?_)|(refine ado rfl 25 (.tmp 2) (.tmp 64) rfl w.heap.size oc rfl rfl 25 _ sk.out cG.out jy.out gn.out ?_));refine adm (v:=.agg oc) ?_ rfl ⟨by rw[pH.out,Ht0.out,Htl.out],au (K6.trans (l0.mono (by omega))) (adi _) _⟩;exact adr rfl _ _ w.heap.size 25 oc (0,0) (.array 32 5) rfl (adt _ _ _ _ _ _ sk.out) (by kernel_rfl) rfl cG.out
end Go.Proofs.YtnlkdheaohocnaaGreatDoor
