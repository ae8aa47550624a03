/- Whoever walks down with the secret signs what whoever walks down without it verifies, and the text of either walks the same way (StrongboxKeyed). No condition. -/
import Derived.Test.YtnlkdheaohocnaaGreatDoorU1
import Derived.Test.YtnlkdheaohocnaaGreatDoorU7
import Derived.Test.YtnlkdheaohocnaaGreatDoorU9
import Derived.Test.YtnlkdheaohocnaaGreatDoorU10
import Derived.Test.YtnlkdheaohocnaaGreatDoorU13
import Derived.RangeFuncWrites
set_option maxRecDepth 1000000
set_option maxHeartbeats 16000000
set_option linter.unusedVariables false
set_option linter.unusedSimpArgs false
namespace Go.Proofs.YtnlkdheaohocnaaGreatDoor
open Go.RowKit Go.Shelf
attribute [local go_sem] Oper.semAt_some
section
variable {P:Program} {F:Fence} {n:Nat} {ops:Array Oper} {rest:List Oper} {o:Oper} {a:Act} {w:World} {K:Act→World→Prop} {Q:Exit→Act→World→Prop}
theorem jM (hF:∀k,F.fn k) (ty:TypeId) (x y:Operand) (ho:o.op=.store ty x y)
 (g:Nat) (cells:Array Value) (hx:a.eval x=.pointer (some ⟨g,0,none⟩)) (hy:a.eval y=.agg cells)
 (t:TypeId) (kP:Array Value) (hg:w.heap[g]?=some (.cells kP t (0,0))) (hi:(P.info? ty).map (·.size)=some cells.size)
 (hold:kP.size=cells.size) (h1:cells.all (·.oneCell')=true)
 (h:K (a.put o.dst undef) (w.setRow g cells)):o.wpIn F n P a w K Q:=by
 refine⟨fun f _=>hF f,?_⟩;rw[Oper.semAt_eq _ _ _ (by simp[ho])];unfold execOp;simp only[ho,hx,hy,Instr.storeAt,Instr.sureAddr,Sem.run_bind,Sem.run_pure,Result.andThen_ok,run_storeVar_row w g t ty kP cells hg hi hold h1];exact h
theorem ug (ty:TypeId) (x y:Operand) (ho:o.op=.store ty x y) (h:wpListIn F n P ops Q (o::rest) a w∧True):wpListIn F n P ops Q (o::rest) a w:=h.1
theorem oJ (lQ:o.guard=none) (hF:∀k,F.fn k) (ty:TypeId) (x y:Operand) (ho:o.op=.store ty x y) (hd:o.dst=none)
 (g:Nat) (cells:Array Value) (hx:a.eval x=.pointer (some ⟨g,0,none⟩)) (hy:a.eval y=.agg cells)
 (t:TypeId) (kP:Array Value) (hg:w.heap[g]?=some (.cells kP t (0,0))) (hi:(P.info? ty).map (·.size)=some cells.size)
 (hold:kP.size=cells.size) (h1:cells.all (·.oneCell')=true)
 (h:wpListIn F n P ops Q rest a (w.setRow g cells)):wpListIn F n P ops Q (o::rest) a w:=
 wpListIn_plain lQ fun _ hK=>jM hF ty x y ho g cells hx hy t kP hg hi hold h1 (hK _ _ (by rw[hd];exact h))
end
theorem cM {w w':World} {b:Nat} {t:TypeId} {cs:Array Value} {fr:Nat×Nat} {row:Option Nat} (h:w.heap[b]?=some (.cells cs t fr)) (hg:w.grownBy w' row) (hr:∀r,row=some r→∃o:Obj,w.heap[r]?=some o∧o.isCells=false):w'.heap[b]?=some (.cells cs t fr):=
 (hg.block b (adg.1 h).1 fun e=>by
  obtain⟨o,ho,hc⟩:=hr b e.symm;rw[h] at ho;injection ho with ho;subst ho;cases hc).trans h
theorem ON (xs:List (BitVec 32)) (k:Nat) (y:BitVec 32):(cg xs).toArray.setIfInBounds k (.int .u32 (y.toNat:Int))=(cg (xs.set k y)).toArray:=by
 apply Array.ext';simp[cg,List.map_set]
theorem nz (a b c:BitVec 32):((a.toNat:Int)+b.toNat+c.toNat)%4294967296=((a+b+c).toNat:Int):=by
 simp only[BitVec.toNat_add];omega
def ph (st:List (BitVec 32)):List UInt8:=st.flatMap fun x=>[UInt8.ofNat x.toNat,UInt8.ofNat (x.toNat/256),UInt8.ofNat (x.toNat/65536),UInt8.ofNat (x.toNat/16777216)]
theorem AV (st:List (BitVec 32)):(ph st).length=4*st.length:=by
 induction st with
 |nil=>rfl
 |cons x st ih=>simp[ph] at ih⊢;omega
theorem K9 (st:List (BitVec 32)) (k:Nat) (h:k<st.length):(ph st)[4*k]?=some (UInt8.ofNat st[k].toNat)∧(ph st)[4*k+1]?=some (UInt8.ofNat (st[k].toNat/256))∧
 (ph st)[4*k+2]?=some (UInt8.ofNat (st[k].toNat/65536))∧(ph st)[4*k+3]?=some (UInt8.ofNat (st[k].toNat/16777216)):=by
 induction st generalizing k with
 |nil=>simp at h
 |cons x st ih=>
  cases k with
  |zero=>simp[ph]
  |succ k=>
   have:=ih k (by simpa using h);simp only[ph,List.flatMap_cons,List.getElem_cons_succ] at this⊢;rw[show 4*(k+1)=4*k+4 by omega,show 4*k+4+1=4*k+1+4 by omega,show 4*k+4+2=4*k+2+4 by omega,show 4*k+4+3=4*k+3+4 by omega];simpa using this
def Wd5 (v:Value):Prop:=∃u:List (BitVec 32),u.length=5∧v=.agg (cg u).toArray
def Bx5 (B:Nat) (v:Value) (w:World):Prop:=∃(g:Nat) (u:List (BitVec 32)),v=.pointer (some ⟨g,0,none⟩)∧B≤g∧u.length=5∧w.heap[g]?=some (.cells (cg u).toArray 171 (0,0))
theorem Bx5.below {B:Nat} {v:Value} {w w':World} (h:Bx5 B v w) (hb:Below w.heap.size w w'):Bx5 B v w':=by
 obtain⟨g,u,e,hg,hu,hh⟩:=h;exact⟨g,u,e,hg,hu,(hb.block g (adg.1 hh).1).trans hh⟩
theorem Bx5.setRow {B:Nat} {v:Value} {w:World} {g:Nat} {u:List (BitVec 32)} (h:Bx5 B v w) (hu:u.length=5):Bx5 B v (w.setRow g (cg u).toArray):=by
 obtain⟨g',u',e,hg,hu',hh⟩:=h
 by_cases hgg:g'=g
 · subst hgg
   exact⟨g',u,e,hg,hu,adt _ _ _ _ _ _ hh⟩
 exact⟨g',u',e,hg,hu',(setRow_other _ _ _ _ hgg).trans hh⟩
theorem lk {w w':World} (hb:Below w.heap.size w w'):KeepsOthers w w':=⟨hb.size,fun k _ hk _=>(hb.block k (adg.1 hk).1).trans hk⟩
theorem rq {w:World} {g:Nat} {cs:Array Value} {t:TypeId} {fr:Nat×Nat} (hh:w.heap[g]?=some (.cells cs t fr)) (c':Array Value):KeepsOthers w (w.setRow g c'):=
 KeepsOthers.of_grownBy (pV w g c') fun j o e ho=>by
  injection e with e;subst e;rw[hh] at ho;injection ho with ho;subst ho;rfl
def H5:List (BitVec 32):=[0x67452301,0xefcdab89,0x98badcfe,0x10325476,0xc3d2e1f0]
theorem HJ (n:Nat) (hn:3≤n) (A:Option Addr) (c:Nat) (b:List UInt8) (hl:b.length=32) (jT:32≤c) (hc:c≤maxLen) (w:World) (hs:Sl w w.heap.size A (B8 b)):
 CallsIn Fence.wide n Tryz.prog 103 #[.slice A 32 c] w fun e W'=>(∃ys:List UInt8,ys.length=20∧e=.returned (.agg (B8 ys).toArray))∧Below w.heap.size w W':=by
 have h1:1≤n:=by omega
 have hF:∀k,Fence.wide.fn k:=fun _=>trivial
 have nf:Fence.wide.round=none:=rfl;have Hl:=ab hl;have Hs:=ab hs;clear hl hs;refine callsIn_of_wp_marks Tryz.func103 rfl (hF _) ?_ nf;simp only[Tryz.ntmps103,List.size_toArray,adz,List.length_nil,Nat.reduceAdd,Nat.reduceSub,Array.replicate_succ,Array.replicate_zero,List.push_toArray,List.append_toArray,adj,adh];refine wpIn_wide.2 ?_;go_wp2_with fail;obtain⟨wA,Vq⟩:∃wA,wA=(w.alloc (.cells #[.int .u8 0,.int .u8 0,.int .u8 0,.int .u8 0,.int .u8 0,.int .u8 0,.int .u8 0,.int .u8 0,.int .u8 0,.int .u8 0,.int .u8 0,.int .u8 0,.int .u8 0,.int .u8 0,.int .u8 0,.int .u8 0,.int .u8 0,.int .u8 0,.int .u8 0,.int .u8 0] 112)).alloc (.cells (cg H5).toArray 171):=⟨_,rfl⟩
 refine(show wA=_ by rw[Vq])▸?_;have hbA:Below w.heap.size w wA:=by rw[Vq];exact((adl _ w).alloc (adi _) _).alloc (by simp) _
 have hzA:wA.heap.size=w.heap.size+1+1:=by rw[Vq];simp
 have gR:wA.heap[w.heap.size]?=some (.cells #[.int .u8 0,.int .u8 0,.int .u8 0,.int .u8 0,.int .u8 0,.int .u8 0,.int .u8 0,.int .u8 0,.int .u8 0,.int .u8 0,.int .u8 0,.int .u8 0,.int .u8 0,.int .u8 0,.int .u8 0,.int .u8 0,.int .u8 0,.int .u8 0,.int .u8 0,.int .u8 0] 112 (0,0)):=by rw[Vq];exact jj (adk w _)
 have gH:wA.heap[w.heap.size+1]?=some (.cells (cg H5).toArray 171 (0,0)):=by
  rw[Vq];have:=adk (w.alloc (.cells #[.int .u8 0,.int .u8 0,.int .u8 0,.int .u8 0,.int .u8 0,.int .u8 0,.int .u8 0,.int .u8 0,.int .u8 0,.int .u8 0,.int .u8 0,.int .u8 0,.int .u8 0,.int .u8 0,.int .u8 0,.int .u8 0,.int .u8 0,.int .u8 0,.int .u8 0,.int .u8 0] 112)) (.cells (cg H5).toArray 171)
  rw[adD] at this;exact this
 clear Vq;refine(tO 32 (by omega) wA).mono ?_;rintro e w1 ⟨tv,rfl,zL,bH⟩;obtain⟨T,hT⟩:=ae (eF 32 8);have vD:T.length=32:=by rw[hT,jR 32 8 (adi _)]
 rw[←hT] at zL;clear hT;have Vr:=bH.size
 obtain⟨g1,c1,DT,rfl,oT,AM,aaJ,kq,aaK,QA⟩:∃g1 c1 DT,tv=.slice (some ⟨g1,0,none⟩) 32 c1∧32≤c1∧c1≤maxLen∧wA.heap.size≤g1∧w1.heap[g1]?=some (.cells DT 5 (0,0))∧c1≤DT.size∧DT.toList.take 32=B8 T:=by
  obtain⟨A1,c1,e,h1,h2,h3⟩:=zL;rw[B8_length,vD] at e h1;obtain⟨g,cur,e',hg,hh,hs,ht⟩:=h3 (by omega);rw[B8_length,vD] at ht;subst e';exact⟨g,c1,cur,e,h1,h2,hg,hh,hs,ht⟩
 have aaL:g1<w1.heap.size:=(adg.1 kq).1;obtain⟨l1,lE⟩:=ae (B8 (T.take 24));obtain⟨l3,hl3⟩:=ae (DT.toList.drop 32);have aaM:l1.length=24:=by rw[lE];simp[vD]
 have La:DT=(l1++B8 (T.drop 24)++l3).toArray:=by
  apply Array.ext';show DT.toList=_;rw[lE,hl3,←bp,List.take_append_drop,←QA,List.take_append_drop]
 have so:w1.heap[g1]?=some (.cells (l1++B8 (T.drop 24)++l3).toArray 5 (0,0)):=by rw[←La];exact kq
 have acu:c1≠24:=by omega
 have hrv:=si g1 24 (c1-24) l1 l3 5 (T.drop 24) w1 so aaM (by simp[vD]);have hd8:(T.drop 24).length=8:=by simp[vD]
 rw[hd8] at hrv;have Hrv:=ab hrv;have acv:c1-32≤l3.length:=by rw[hl3];simp;omega
 have Sy:(T.take 24++(T.drop 24).reverse).length=32:=by simp[vD]
 obtain⟨T2,hT2⟩:∃T2,T2=T.take 24++(T.drop 24).reverse:=⟨_,rfl⟩;rw[←hT2] at Sy;have Xn:l1++B8 (T.drop 24).reverse=B8 T2:=by rw[lE,hT2,bp]
 have Xo:=ab Xn;have HO:=ab Sy;have Sz:Below w.heap.size w w1:=hbA.trans (bH.mono hbA.size);have gR1:=(bH.block w.heap.size (by omega)).trans gR;have Xp:=(bH.block (w.heap.size+1) (by omega)).trans gH;have aaN:w.heap.size+1<g1:=by omega
 clear hrv Xn hT2 Sy hd8 so La lE hl3 kq QA aaK zL vD bH gR gH hbA;go_wp2_with fail;refine Hrv.out.mono ?_;rintro e w2 ⟨rfl,QB,Lb⟩;have bS:Below w.heap.size w w2:=Sz.grown Lb Sz.size (fun r hr=>by injection hr with hr;omega);have mo:=Lb.size;have Lc:=(Lb.block w.heap.size (by omega) (by simp;omega)).trans gR1;have Xq:=(Lb.block (w.heap.size+1) (by omega) (by simp;omega)).trans Xp
 have Xr:Ow w2 (w.heap.size+1+1) 5 (.slice (some ⟨g1,0,none⟩) 32 c1) (B8 T2):=by
  refine⟨_,c1,by rw[B8_length,HO.out],by rw[B8_length,HO.out];exact oT,AM,fun _=>⟨g1,_,rfl,by omega,QB,?_,?_⟩⟩
  · rw[Xo.out];simp[HO.out];omega
  rw[Xo.out];simp[HO.out]
 clear QB Lb Hrv gR1 Xp Sz;go_wp2_with fail;refine(yq w2).mono ?_;rintro e w3 ⟨rfl,b5⟩;obtain⟨CL,hCL⟩:∃CL,CL=(iU rL sL kL).toArray:=⟨_,rfl⟩;rw[←hCL];have HCL:=ab hCL;clear hCL;go_wp2_with fail;refine(vO w3).mono ?_;rintro e w4 ⟨rfl,gg⟩;obtain⟨CR,hCR⟩:∃CR,CR=(iU rR sR kR).toArray:=⟨_,rfl⟩;rw[←hCR];have HCR:=ab hCR;clear hCR;have oK:Below w2.heap.size w2 w4:=b5.trans (gg.mono b5.size);have aaO:=oK.size;have SA:Below w.heap.size w w4:=bS.trans (oK.mono bS.size);have FE:=(oK.block w.heap.size (by omega)).trans Lc;have Xs:=(oK.block (w.heap.size+1) (by omega)).trans Xq;have Xt:=Xr.below oK (adi _);clear b5 gg oK Lc Xq Xr bS;obtain⟨Z,hZ⟩:=ae Tryz.zeroCells175;have SD:CL.size=165:=by rw[HCL.out,List.size_toArray,jV yl ym DG]
 have SE:CR.size=165:=by rw[HCR.out,List.size_toArray,jV yo yp DH]
 have aaP:Hid (CL.all (·.oneCell')=true):=ab (by rw[HCL.out];exact n8 _ _ _);have aaQ:Hid (CR.all (·.oneCell')=true):=ab (by rw[HCR.out];exact n8 _ _ _);have Xu:Hid ((Tryz.prog.info? 175).map (·.size)=some CL.size):=ab (by rw[SD];kernel_rfl);have Xv:Hid ((Tryz.prog.info? 175).map (·.size)=some CR.size):=ab (by rw[SE];kernel_rfl);have aaR:Hid (Tryz.zeroCells175.size=CL.size):=ab (by rw[SD];kernel_rfl);have aaS:Hid (Tryz.zeroCells175.size=CR.size):=ab (by rw[SE];kernel_rfl);obtain⟨g4,zO⟩:=ae w4.heap.size;have q5:((w4.alloc (.cells Tryz.zeroCells175 175)).alloc (.cells Tryz.zeroCells175 175)).heap[w4.heap.size]?=some (.cells Tryz.zeroCells175 175 (0,0)):=jj (adk w4 _)
 have q6:(((w4.alloc (.cells Tryz.zeroCells175 175)).alloc (.cells Tryz.zeroCells175 175)).setRow w4.heap.size CL).heap[w4.heap.size+1]?=some (.cells Tryz.zeroCells175 175 (0,0)):=by
  have:=adk (w4.alloc (.cells Tryz.zeroCells175 175)) (.cells Tryz.zeroCells175 175);rw[adD] at this;rw[setRow_other _ _ _ _ (by omega)];exact this
 have Q5:=ab q5;have Q6:=ab q6;clear q5 q6 SD SE hZ;go_wp2_with (first|(refine wpList_store_rowTo rfl 175 (.tmp 5) (.tmp 26) rfl rfl w4.heap.size CL rfl rfl 175 _ Q5.out Xu.out aaR.out aaP.out ?_)|(refine wpList_store_rowTo rfl 175 (.tmp 6) (.tmp 27) rfl rfl (w4.heap.size+1) CR rfl rfl 175 _ Q6.out Xv.out aaS.out aaQ.out ?_) );obtain⟨w5,FF⟩:∃w5,w5=((((w4.alloc (.cells Tryz.zeroCells175 175)).alloc (.cells Tryz.zeroCells175 175)).setRow w4.heap.size CL).setRow (w4.heap.size+1) CR):=⟨_,rfl⟩;rw[←FF];have Ld:Below w4.heap.size w4 w5:=by rw[FF];exact au (au (((adl _ _).alloc (adi _) _).alloc (by simp) _) (adi _) _) (by omega) _
 have gL5:w5.heap[g4]?=some (.cells CL 175 (0,0)):=by rw[FF,zO,setRow_other _ _ _ _ (by omega)];exact adt _ _ _ _ _ _ Q5.out
 have gM5:w5.heap[g4+1]?=some (.cells CR 175 (0,0)):=by rw[FF,zO];exact adt _ _ _ _ _ _ Q6.out
 have hz5:w5.heap.size=g4+1+1:=by rw[FF,zO];simp
 rw[←zO];have Le:Below w.heap.size w w5:=SA.trans (Ld.mono SA.size);have Xw:=(Ld.block w.heap.size (by omega)).trans FE;have Xx:=(Ld.block (w.heap.size+1) (by omega)).trans Xs;have Xy:=Xt.below Ld (adi _);have aaT:w.heap.size+1<g4:=by omega
 have FG:=(Hs.out.below Le).mono Le.size;have aaU:g1<w5.heap.size:=by omega
 clear FF Ld SA FE Xs Xt Q5 Q6 zO aaO mo;have SF:=j4 A c b w5 FG (by rw[Hl.out];omega);rw[Hl.out] at SF;refine SF.mono ?_;clear SF FG;rintro e w6 ⟨v6,rfl,H6,qR⟩;obtain⟨A6,c6,rfl,hc6,aaV⟩:=bw H6;rw[Hl.out] at H6 hc6⊢;have Xz:=Xy.below qR (adi _);have Vs:=qR.size;go_wp2_with (at_builtin;go_loud (refine aX (m:=32) (c:=c1) (base:=w5.heap.size) (xs:=B8 b) (v:=.slice A6 32 c6) (A:=some ⟨g1,0,none⟩) (B:=w6.heap.size) (news:=B8 T2) lC rfl (.tmp 29) (.tmp 30) rfl rfl H6 rfl Xz.sl (by rw[B8_length];exact HO.out) (aR _) (by rw[B8_length,Hl.out];simp[maxLen]) (by rw[B8_length,Hl.out];omega) Vs ?_);intro v7 w7 ru hg7 hr7);rw[←bp] at ru;have H7:(b++T2).length=64:=by rw[adv,Hl.out,HO.out]
 obtain⟨M,hM⟩:∃M,M=b++T2:=⟨_,rfl⟩;rw[←hM] at ru H7;have DU:Below w5.heap.size w5 w7:=qR.grown hg7 Vs (fun r hr=>(H6.row r hr).1);have aaW:=DU.size
 obtain⟨g7,c7,p5,rfl,XA,XB,XC,DV,XD,AW⟩:∃g7 c7 p5,v7=.slice (some ⟨g7,0,none⟩) 64 c7∧64≤c7∧c7≤maxLen∧w5.heap.size≤g7∧w7.heap[g7]?=some (.cells p5 5 (0,0))∧c7≤p5.size∧p5.toList.take 64=B8 M:=by
  obtain⟨A1,c1,e,h1,h2,h3⟩:=ru;rw[B8_length,H7] at e h1;obtain⟨g,cur,e',hg,hh,hs,ht⟩:=h3 (by omega);rw[B8_length,H7] at ht;subst e';exact⟨g,c1,cur,e,h1,h2,hg,hh,hs,ht⟩
 have XE:g7<w7.heap.size:=(adg.1 DV).1
 have H8:Hid (∀j,j<64→∃x:BitVec 32,p5[j]?=some (.int .u8 (x.toNat:Int))):=ab (fun j hj=>by
  have zB:j<(B8 M).length:=by rw[B8_length,H7];exact hj
  refine⟨(M[j]'(by rw[H7];exact hj)).toBitVec.setWidth 32,?_⟩
  rw[←Fj];rw[←Array.getElem?_toList,←List.getElem?_take_of_lt (by omega:j<64),AW,adp zB,ed])
 have SG:Below w.heap.size w w7:=Le.trans (DU.mono Le.size);have XF:=(DU.block w.heap.size (by omega)).trans Xw;have gH7:=(DU.block (w.heap.size+1) (by omega)).trans Xx;have gL7:=(DU.block g4 (by omega)).trans gL5;have gM7:=(DU.block (g4+1) (by omega)).trans gM5;clear ru H6 Xz Xy hM H7 AW DU qR hg7 hr7 Xw Xx gL5 gM5 Le;refine((callsIn_wide (n:=n)).1 (AF Fence.wide hF nf n (some ⟨g7,0,none⟩) 64 c7 64 (by omega) w7)).mono ?_;rintro e w8 ⟨rfl,XG⟩;have pn:Below w7.heap.size w7 w8:=by rw[XG];exact((adl _ _).alloc (adi _) _).alloc (by simp) _
 have b8:Boxed w8 w7.heap.size 22 (.slice (some ⟨g7,0,none⟩) 64 c7):=by rw[XG];exact(Boxed.new w7 _ _).alloc _
 have b9:Boxed w8 (w7.heap.size+1) 3 (.int .i64 64):=by
  rw[XG];have:=Boxed.new (w7.alloc (.cells #[.slice (some ⟨g7,0,none⟩) 64 c7] 22)) 3 (.int .i64 64)
  rw[adD] at this;exact this
 have XH:w8.heap.size=w7.heap.size+1+1:=by rw[XG];simp
 clear XG;obtain⟨Bs,rf⟩:=ae w7.heap.size;rw[←rf] at b8 b9 XH⊢;have XI:Below w.heap.size w w8:=SG.trans (pn.mono SG.size);have gR8:=(pn.block w.heap.size (by omega)).trans XF;have gH8:=(pn.block (w.heap.size+1) (by omega)).trans gH7;have gL8:=(pn.block g4 (by omega)).trans gL7;have gM8:=(pn.block (g4+1) (by omega)).trans gM7;have g78:=(pn.block g7 XE).trans DV;have acw:g7<Bs:=by omega
 have acx:g4+1<g7:=by omega
 obtain⟨R,hR⟩:=ae w.heap.size;rw[←hR] at gR8 gH8 aaT XI⊢;have HR:=ab hR;have XJ:Bs+1<w8.heap.size:=by omega
 have SH:R≤w8.heap.size:=by omega
 clear pn SG XF gH7 gL7 gM7 DV rf hR XH XE aaW XC hz5 Vs aaN aaU aaJ aaL Vr hzA;go_wp2_with fail;refine(wpIn_wide (n:=n)).1 ?_
 refine wpIn_rangeFunc_ownG (a₁:=?frA) nf h1 (gf:=116) (lb:=#[.pointer (some ⟨Bs,0,none⟩),.pointer (some ⟨Bs+1,0,none⟩)]) rfl (hF _) (enters_of Tryz.func116 (by kernel_rfl) rfl)
  (sg Fence.wide hF nf (n-1) (by omega) Bs R g7 g7 0 c7 64 1 (by omega) (by omega) (by omega) (α:={x:Nat //∃j,j<1∧x=64*j}) (·.1) (fun j h=>⟨⟨64*j,j,h,rfl⟩,rfl⟩) w8 SH XJ (by omega) b8.cell b9.cell)
  KeepC.trans (KeepC.b SH XJ (by omega)) (adl _ _) (fun _=>rfl)
  (fun _ W=>((∃s:List (BitVec 32),s.length=5∧W.heap[R+1]?=some (.cells (cg s).toArray 171 (0,0)))∧W.heap[R]?=some (.cells #[.int .u8 0,.int .u8 0,.int .u8 0,.int .u8 0,.int .u8 0,.int .u8 0,.int .u8 0,.int .u8 0,.int .u8 0,.int .u8 0,.int .u8 0,.int .u8 0,.int .u8 0,.int .u8 0,.int .u8 0,.int .u8 0,.int .u8 0,.int .u8 0,.int .u8 0,.int .u8 0] 112 (0,0))∧W.heap[g4]?=some (.cells CL 175 (0,0))∧W.heap[g4+1]?=some (.cells CR 175 (0,0))∧
   W.heap[g7]?=some (.cells p5 5 (0,0))∧W.heap[Bs]?=w8.heap[Bs]?∧W.heap[Bs+1]?=w8.heap[Bs+1]?)∧Below R w8 W)
  (fun _ _ _=>False)
  (OwnFrom.and (Go.Own.from (fun s A B row hs hg hr=>let ⟨⟨s,h5,h0⟩,h1,h2,h3,h4,h8,h9⟩:=hs;⟨⟨s,h5,cM h0 hg hr⟩,cM h1 hg hr,cM h2 hg hr,cM h3 hg hr,cM h4 hg hr,(cM (h8.trans b8) hg hr).trans b8.symm,(cM (h9.trans b9) hg hr).trans b9.symm⟩) _) (ownFrom_below (by omega) (by omega)))
  (fun _ _ _ _ _ hs _ _=>hs)
  ⟨⟨⟨H5,rfl,gH8⟩,gR8,gL8,gM8,g78,rfl,rfl⟩,adl _ _⟩
  ?assign ?body ?done ?stop
 case assign=>
  intro l x W K hK
  gi_wp2
  exact hK
 case stop=>
  rintro D c pre W _ _ h _;exact h.elim
 case done=>
  rintro D ys W hD pq ⟨⟨⟨s,FG,gH⟩,gR,gL,gM,gG,k8,k9⟩,pr⟩ hK;have hRW:R+1<W.heap.size:=(adg.1 gH).1;have hDW:D<W.heap.size:=(adg.1 hK).1;obtain⟨Z,hZ⟩:=ae W.heap.size;have HgH:=ab (jj (o':=.cells (Array.replicate 20 (.int .u8 0)) 112) gH);have HgR:=ab gR;have HK:=ab hK;have Vt:=ab hD;have Hs5:=ab FG;have Ss:Hid ((Tryz.prog.info? 171).map (·.size)=some (cg s).toArray.size):=ab (by rw[List.size_toArray,W32_length,FG];kernel_rfl);clear gL gM gG k8 k9 pq gH gR hK hD FG;go_wp2_with (refine adw rfl 171 (.tmp 3) rfl (R+1) rfl 171 (cg s).toArray (0,0) (.array 5 27) HgH.out (by kernel_rfl) rfl Ss.out ?_);obtain⟨tc,zC⟩:∃tc,tc=(cg s).toArray:=⟨_,rfl⟩;rw[←zC];have St:=ab zC;have rn:(ph s).length=20:=by rw[AV,Hs5.out]
  obtain⟨oc,fU⟩:∃oc,oc=(B8 (ph s)).toArray:=⟨_,rfl⟩;have dv:oc.size=20:=by rw[fU];simp[rn]
  have cG:Hid ((Tryz.prog.info? 112).map (·.size)=some oc.size):=ab (by rw[dv];kernel_rfl);have gn:Hid (oc.all (·.oneCell')=true):=ab (by rw[fU];exact all_oneCell_toArray (aR _));have pH:=ab fU;have jy:=ab dv;have Hol:=ab rn;rw[←hZ];have H9:Below Z W (W.alloc (.cells (Array.replicate 20 (.int .u8 0)) 112)):=by rw[hZ];exact(adl _ _).alloc (adi _) _
  have XK:Fill (W.alloc (.cells (Array.replicate 20 (.int .u8 0)) 112)) Z 112 20 (B8 (ph s)) (4*0):=by rw[hZ];exact Fill.new' W _ 20 (.int .u8 0) _
  have hZR:R+1<Z:=by omega
  have hZD:D<Z:=by omega
  clear zC fU dv rn hZ hRW hDW;go_loopw [123] (fun i wr=>∃k:Nat,k≤5∧i=.int .i64 k∧Fill wr Z 112 20 (B8 (ph s)) (4*k)∧Below Z W wr) (fun i _=>5-(intOf i).toNat)
  case atStart=>exact⟨0,adF _,rfl,XK,H9⟩
  case round=>
   clear XK H9;obtain⟨k,hk,rfl,bn,l0⟩:=hrel
   by_cases aV:k<5
   · have OO:=Hs5.out
     obtain⟨x,hx⟩:∃x,x=s[k]'(by omega):=⟨_,rfl⟩
     have tX:=ji (P:=Tryz.prog) 171 27 5 tc .i64 k (.int .u32 (x.toNat:Int)) (by kernel_rfl) (by kernel_rfl) (by kernel_rfl) aV (by rw[St.out];simp[cg,OO,aV,hx]);have Vp:=x.isLt;obtain⟨v0,c0⟩:=bn.cell (j:=4*k) (by omega);obtain⟨v1,c1⟩:=bn.cell (j:=4*k+1) (by omega);obtain⟨v2,c2⟩:=bn.cell (j:=4*k+2) (by omega);obtain⟨v3,c3⟩:=bn.cell (j:=4*k+3) (by omega);have z0:=bn.frozen (4*k);have z1:=bn.frozen (4*k+1);have z2:=bn.frozen (4*k+2);have z3:=bn.frozen (4*k+3);have Hx:=ab hx;clear hx;go_wp2_with fail;obtain⟨g0,g1,g2,g3⟩:=K9 s k (by rw[Hs5.out];exact aV);rw[←Hx.out] at g0 g1 g2 g3
     have b8:∀(j m:Nat),(ph s)[j]?=some (UInt8.ofNat m)→(B8 (ph s))[j]?=some (Value.int IntKind.u8 ((m%256:Nat):Int)):=fun j m h=>by
      rw[B8,List.getElem?_map,h];simp
     have f1:=bn.set (by omega) (b8 _ _ g0);have f2:=f1.set (by omega) (b8 _ _ g1);have f3:=f2.set (by omega) (b8 _ _ g2);have f4:=f3.set (by omega) (b8 _ _ g3);have e0:((x.toNat/16777216%256:Nat):Int)=(x.toNat:Int)/16777216:=by omega
     have e1:((x.toNat/65536%256:Nat):Int)=(x.toNat:Int)/65536%256:=by omega
     have e2:((x.toNat/256%256:Nat):Int)=(x.toNat:Int)/256%256:=by omega
     have e3:((x.toNat%256:Nat):Int)=(x.toNat:Int)%256:=by omega
     rw[e0,e1,e2,e3] at f4;have yA:=(((l0.setCell (p:=⟨Z,4*k,none⟩) (adi _) (.int .u8 ((x.toNat:Int)%256))).setCell (p:=⟨Z,4*k+1,none⟩) (adi _) (.int .u8 ((x.toNat:Int)/256%256))).setCell (p:=⟨Z,4*k+2,none⟩) (adi _) (.int .u8 ((x.toNat:Int)/65536%256))).setCell (p:=⟨Z,4*k+3,none⟩) (adi _) (.int .u8 ((x.toNat:Int)/16777216));exact⟨⟨k+1,by omega,rfl,f4,yA⟩,by simp[intOf];omega⟩
   obtain rfl:k=5:=by omega
   have dW:=bn.done (by rw[B8_length,Hol.out]);rw[←pH.out] at dW;have pW:=ab dW;have Lf:=ab ((l0.block R (by omega)).trans HgR.out);have XL:=ab ((l0.block D hZD).trans HK.out);clear dW bn;go_wp2_with (first|(refine adw rfl 112 (.tmp 12) rfl Z rfl 112 oc (0,0) (.array 20 5) pW.out (by kernel_rfl) rfl cG.out ?_)|(refine ado rfl 112 (.tmp 2) (.tmp 154) rfl R oc rfl rfl 112 _ Lf.out cG.out (by rw[jy.out];rfl) gn.out ?_));have Vu:(wr.setRow R oc).heap[D]?=some (.deferred (some [])):=(setRow_other _ _ _ _ (by have:=Vt.out;omega)).trans XL.out;have hDR:R≠D:=by have:=Vt.out;omega
   have vE:Below R w (wr.setRow R oc):=au ((XI.trans pr).trans (l0.mono (by omega))) (adi R) oc;refine⟨by simp,.inl ⟨_,_,rfl,run_takeDeferred Vu,?_⟩⟩;refine⟨_,adr rfl _ _ R 112 oc (0,0) (.array 20 5) rfl ?_ (by kernel_rfl) rfl cG.out,⟨ph s,Hol.out,by rw[pH.out]⟩,?_⟩
   · exact(World.putObj_heap_other hDR).trans (adt _ _ _ _ _ _ Lf.out)
   rw[←HR.out];exact vE.trans (belowK_b (w:=w8) SH _ D _ _ Vt.out Vu rfl rfl)
 case body=>
  rintro l pre ⟨x,hx⟩ W ⟨⟨⟨s,FG,gH⟩,gR,gL,gM,gG,k8,k9⟩,pr⟩ sM;have hd:1≤n-1-1:=by omega
  obtain rfl:x=0:=by obtain⟨j,hj,rfl⟩:=hx;omega
  have bx:Tryz.prog.follows .mixedOrders=true:=by kernel_rfl
  have hXs:R+1<W.heap.size:=(adg.1 gH).1;have hGs:g7<W.heap.size:=(adg.1 gG).1;have rf:Bs+1<W.heap.size:=by have:=pr.size;omega
  gi_wp2
  obtain⟨X,hX⟩:=ae W.heap.size;obtain⟨WX,XM⟩:∃WX,WX=W.alloc (.cells (cg (List.replicate 16 0)).toArray 177):=⟨_,rfl⟩;refine(show WX=_ by rw[XM])▸?_;have OP:Below X W WX:=by rw[XM,hX];exact(adl _ _).alloc (adi _) _
  have gX:WX.heap[X]?=some (.cells (cg (List.replicate 16 0)).toArray 177 (0,0)):=by rw[XM,hX];exact adk W _
  have kX:KeepsOthers W WX:=by rw[XM];exact KeepsOthers.alloc W _
  clear XM;rw[←hX] at hXs hGs rf⊢;clear hX
  gi_loopw [34] (fun i wr=>∃k:Nat,k≤16∧i=.int .i64 k∧(∃xs:List (BitVec 32),xs.length=16∧wr.heap[X]?=some (.cells (cg xs).toArray 177 (0,0)))∧Below X W wr∧KeepsOthers W wr) (fun i _=>16-(intOf i).toNat)
  case atStart=>exact⟨0,by omega,rfl,⟨_,by simp,gX⟩,OP,kX⟩
  case round=>
   clear gX OP kX;obtain⟨k,hk,rfl,⟨xs,yi,gX⟩,OP,kX⟩:=hrel
   by_cases aV:k<16
   · have XN:=(OP.block g7 hGs).trans gG
     obtain⟨y0,NQ⟩:=H8.out (4*k) (by omega);obtain⟨y1,KM⟩:=H8.out (4*k+1) (by omega);obtain⟨y2,zH⟩:=H8.out (4*k+2) (by omega);obtain⟨y3,OD⟩:=H8.out (4*k+3) (by omega);have z0:wr.cell? ⟨g7,4*k,none⟩=some (.int .u8 (y0.toNat:Int)):=(adn _ _ _ _ _ (0,0) XN).trans NQ;have z1:wr.cell? ⟨g7,4*k+1,none⟩=some (.int .u8 (y1.toNat:Int)):=(adn _ _ _ _ _ (0,0) XN).trans KM;have z2:wr.cell? ⟨g7,4*k+2,none⟩=some (.int .u8 (y2.toNat:Int)):=(adn _ _ _ _ _ (0,0) XN).trans zH;have z3:wr.cell? ⟨g7,4*k+3,none⟩=some (.int .u8 (y3.toNat:Int)):=(adn _ _ _ _ _ (0,0) XN).trans OD;have fX:=frozen_of_row _ X k _ _ gX;obtain⟨v0,WZ⟩:∃v0,wr.cell? ⟨X,k,none⟩=some v0:=⟨_,by rw[adn _ _ k _ _ (0,0) gX,Array.getElem?_eq_getElem (by simp[yi];exact aV)]⟩;have GX:=ab gX;clear NQ KM zH OD gX XN
     gi_wp2
     refine dq [(0,0),(1,0),(2,0),(3,0),(4,0),(5,1),(6,0),(7,0),(8,0),(9,0),(10,0),(11,0),(12,1),(13,0),(14,0),(15,0),(16,0),(17,0),(18,0),(19,0),(20,0),(21,1),(22,0),(23,0),(24,0),(25,0),(26,0),(27,0),(28,0),(29,0),(30,1),(31,0),(32,0),(33,0),(34,0),(35,2)] 35 (fun _=>trivial) bx (by kernel_rfl) (by intro c a d v w h;cases d<;>exact h) ?_
     repeat ((first|(refine ao rfl (fun K hK=>?_))|(refine aD rfl (fun K hK=>?_)));go_simp;(first|(refine hK _ ?_)|(simp only[IntWalk.iteOmega];go_simp;refine hK _ ?_) );clear hK K;(try go_bits))
     refine bW rfl rfl (fun K hK=>?_)
     gi_wp2
     refine⟨.inl (by decide),aB ?_⟩
     gi_wp2
     have e:bits .or .u32 (bits .or .u32 (bits .or .u32 (y0.toNat:Int) ((y1.toNat:Int)*256%4294967296)) ((y2.toNat:Int)*65536%4294967296)) ((y3.toNat:Int)*16777216%4294967296)=((y0 ||| y1<<<8 ||| y2<<<16 ||| y3<<<24).toNat:Int):=by
      rw[←tL,←tL,←tL,←qZ,←qZ,←qZ];rfl
     rw[e];refine⟨⟨k+1,by omega,by go_num,⟨xs.set k (y0 ||| y1<<<8 ||| y2<<<16 ||| y3<<<24),by simp[yi],?_⟩,(OP.setCell (p:=⟨X,k,none⟩) (adi _) _).drew,kX.trans ((KeepsOthers.setCell _ _ _).trans (KeepsOthers.drew _))⟩,by simp[intOf];omega⟩;rw[←ON];exact heap_setCell_same wr X k _ _ _ GX.out
   obtain rfl:k=16:=by omega
   have acy:X<wr.heap.size:=(adg.1 gX).1;have gHr:=(OP.block (R+1) hXs).trans gH;have gLr:=(OP.block g4 (by omega)).trans gL;have gMr:=(OP.block (g4+1) (by omega)).trans gM;have hlL:=AG rL sL kL yl ym DG WS WU s xs FG yi false;have hlR:=AG rR sR kR yo yp DH WT WV s xs FG yi true;rw[←HCL.out] at hlL;rw[←HCR.out] at hlR;have hiS:(Tryz.prog.info? 171).map (·.size)=some (cg s).toArray.size:=by rw[List.size_toArray,W32_length,FG];kernel_rfl
   have C9:(Tryz.prog.info? 177).map (·.size)=some (cg xs).toArray.size:=by rw[List.size_toArray,W32_length,yi];kernel_rfl
   have HlL:=ab hlL;have Da:=ab hlR;clear hlL hlR
   gi_wp2
   refine sQ (fun w'=>Below (X+1) wr w') [0,1,2,4,5,6] (fun a0 listed a' w'=>listed.size=12∧([0,1,2,4,5,6].all fun j=>listed.getD j false)=true∧Below (X+1) wr w'∧KeepsOthers wr w'∧
    ∃t10 t11 t76 t80,a'=((((((((((a0.put (some 73) (.agg CL)).put (some 74) (.agg (cg s).toArray)).put (some 75) (.agg (cg xs).toArray)).put (some 77) (.agg CR)).put (some 78) (.agg (cg s).toArray)).put (some 79) (.agg (cg xs).toArray)).put (some 10) t10).put (some 11) t11).put (some 76) t76).put (some 80) t80)∧
     (listed.getD 3 false=true→Wd5 t76)∧(listed.getD 7 false=true→Wd5 t80)∧(listed.getD 8 false=true→Bx5 (X+1) t10 w')∧(listed.getD 9 false=true→Bx5 (X+1) t11 w')) (fun _=>trivial) bx (by kernel_rfl) (by intro c a d v w h;cases d<;>exact h) (adl _ _).drew (fun _ _ _ h=>h.2.2.1) ?step ?fin ?pre
   case pre=>
    refine iu (.agg CL) rfl rfl (fun W' hS=>dj 175 (.tmp 5) rfl g4 rfl 175 CL (0,0) _ ((hS.block g4 (by omega)).trans gLr) Tryz.underlying175 rfl Xu.out) ?_;refine iu (.agg (cg s).toArray) rfl rfl (fun W' hS=>dj 171 (.tmp 3) rfl (R+1) rfl 171 _ (0,0) _ ((hS.block (R+1) (by omega)).trans gHr) Tryz.underlying171 rfl hiS) ?_;refine iu (.agg (cg xs).toArray) rfl rfl (fun W' hS=>dj 177 (.tmp 8) rfl X rfl 177 _ (0,0) _ ((hS.block X (by omega)).trans gX) Tryz.underlying177 rfl C9) ?_;refine iu (.agg CR) rfl rfl (fun W' hS=>dj 175 (.tmp 6) rfl (g4+1) rfl 175 CR (0,0) _ ((hS.block (g4+1) (by omega)).trans gMr) Tryz.underlying175 rfl Xv.out) ?_;refine iu (.agg (cg s).toArray) rfl rfl (fun W' hS=>dj 171 (.tmp 3) rfl (R+1) rfl 171 _ (0,0) _ ((hS.block (R+1) (by omega)).trans gHr) Tryz.underlying171 rfl hiS) ?_;refine iu (.agg (cg xs).toArray) rfl rfl (fun W' hS=>dj 177 (.tmp 8) rfl X rfl 177 _ (0,0) _ ((hS.block X (by omega)).trans gX) Tryz.underlying177 rfl C9) ?_;refine⟨?_,?_,(adl _ _).drew,KeepsOthers.drew _,undef,undef,undef,undef,?_,fun h=>?_,fun h=>?_,fun h=>?_,fun h=>?_⟩
    · rfl
    · decide
    · go_simp
    all_goals exact absurd h (by decide)
   case step=>
    rintro listed a' w' i ⟨hz,OQ,hb,pJ,t10,t11,t76,t80,rfl,h3,h7,h8,h9⟩ hi;obtain⟨pL,o,ho,dc⟩:=mem_ready.1 hi;have Ia:i<12:=(adg.1 ho).1;have sS:=fun j hj=>List.all_eq_true.1 OQ j hj
    have bN:∀{i j:Nat},i≠j→(listed.setIfInBounds i true).getD j false=listed.getD j false:=fun h=>getD_set_ne false h
    have FH:i=3∨i=7∨i=8∨i=9∨i=10∨i=11:=by
     have aaX:i=0∨i=1∨i=2∨i=4∨i=5∨i=6∨(i=3∨i=7∨i=8∨i=9∨i=10∨i=11):=by omega
     rcases aaX with rfl|rfl|rfl|rfl|rfl|rfl|h
     · exact(dI (sS 0 (by decide)) pL).elim
     · exact(dI (sS 1 (by decide)) pL).elim
     · exact(dI (sS 2 (by decide)) pL).elim
     · exact(dI (sS 4 (by decide)) pL).elim
     · exact(dI (sS 5 (by decide)) pL).elim
     · exact(dI (sS 6 (by decide)) pL).elim
     exact h
    have Vr:=hb.size;rcases FH with rfl|rfl|rfl|rfl|rfl|rfl
    · clear ho dc hi pL sS Ia
      refine j5 rfl rfl (fun K hK=>?_)
      gi_wp2
      refine(CallsIn.inRound l (callsIn_wide.2 (HlL.out w'))).mono ?_;rintro e Vh ⟨⟨u,hu,rfl⟩,iG⟩
      gi_wp2
      refine⟨by simpa using hz,n9 OQ,hb.trans (iG.mono (by omega)),pJ.trans (lk iG),t10,t11,.agg (cg u).toArray,t80,?_,fun _=>⟨u,hu,rfl⟩,fun h=>h7 (by rwa [bN (by decide)] at h),fun h=>(h8 (by rwa [bN (by decide)] at h)).below iG,fun h=>(h9 (by rwa [bN (by decide)] at h)).below iG⟩;go_simp
    · clear ho dc hi pL sS Ia
      refine j5 rfl rfl (fun K hK=>?_)
      gi_wp2
      refine(CallsIn.inRound l (callsIn_wide.2 (Da.out w'))).mono ?_;rintro e Vh ⟨⟨u,hu,rfl⟩,iG⟩
      gi_wp2
      refine⟨by simpa using hz,n9 OQ,hb.trans (iG.mono (by omega)),pJ.trans (lk iG),t10,t11,t76,.agg (cg u).toArray,?_,fun h=>h3 (by rwa [bN (by decide)] at h),fun _=>⟨u,hu,rfl⟩,fun h=>(h8 (by rwa [bN (by decide)] at h)).below iG,fun h=>(h9 (by rwa [bN (by decide)] at h)).below iG⟩;go_simp
    · clear ho dc hi pL sS Ia
      refine j5 rfl rfl (fun K hK=>?_)
      gi_wp2
      have iG:=(adl w'.heap.size w').alloc (adi _) (.cells (cg (List.replicate 5 0)).toArray 171);refine⟨by simpa using hz,n9 OQ,hb.trans (iG.mono (by omega)),pJ.trans (lk iG),.pointer (some ⟨w'.heap.size,0,none⟩),t11,t76,t80,?_,fun h=>h3 (by rwa [bN (by decide)] at h),fun h=>h7 (by rwa [bN (by decide)] at h),fun _=>⟨w'.heap.size,List.replicate 5 0,rfl,by omega,rfl,adk w' _⟩,fun h=>(h9 (by rwa [bN (by decide)] at h)).below iG⟩;go_simp
    · clear ho dc hi pL sS Ia
      refine j5 rfl rfl (fun K hK=>?_)
      gi_wp2
      have iG:=(adl w'.heap.size w').alloc (adi _) (.cells (cg (List.replicate 5 0)).toArray 171);refine⟨by simpa using hz,n9 OQ,hb.trans (iG.mono (by omega)),pJ.trans (lk iG),t10,.pointer (some ⟨w'.heap.size,0,none⟩),t76,t80,?_,fun h=>h3 (by rwa [bN (by decide)] at h),fun h=>h7 (by rwa [bN (by decide)] at h),fun h=>(h8 (by rwa [bN (by decide)] at h)).below iG,fun _=>⟨w'.heap.size,List.replicate 5 0,rfl,by omega,rfl,adk w' _⟩⟩;go_simp
    · obtain⟨g,u,rfl,hg,hu,hh⟩:=h8 (lj 8 hi (by kernel_rfl))
      obtain⟨v,hv,rfl⟩:=h3 (lj 3 hi (by kernel_rfl));have zP:(Tryz.prog.info? 171).map (·.size)=some (cg v).toArray.size:=by rw[List.size_toArray,W32_length,hv];kernel_rfl
      clear ho dc hi pL sS Ia;refine j5 rfl rfl (fun K hK=>?_);refine jM (fun _=>trivial) 171 (.tmp 10) (.tmp 76) rfl g (cg v).toArray ?hx ?hy 171 _ hh zP (by simp[hu,hv]) (n7 _) ?hh
      case hx=>go_simp
      case hy=>go_simp
      refine hK _ _ ⟨by simpa using hz,n9 OQ,au hb hg _,pJ.trans (rq hh _),.pointer (some ⟨g,0,none⟩),t11,.agg (cg v).toArray,t80,?_,fun _=>⟨v,hv,rfl⟩,fun h=>h7 (by rwa [bN (by decide)] at h),fun _=>Bx5.setRow ⟨g,u,rfl,hg,hu,hh⟩ hv,fun h=>(h9 (by rwa [bN (by decide)] at h)).setRow hv⟩;go_simp
    obtain⟨g,u,rfl,hg,hu,hh⟩:=h9 (lj 9 hi (by kernel_rfl));obtain⟨v,hv,rfl⟩:=h7 (lj 7 hi (by kernel_rfl));have zP:(Tryz.prog.info? 171).map (·.size)=some (cg v).toArray.size:=by rw[List.size_toArray,W32_length,hv];kernel_rfl
    clear ho dc hi pL sS Ia;refine j5 rfl rfl (fun K hK=>?_);refine jM (fun _=>trivial) 171 (.tmp 11) (.tmp 80) rfl g (cg v).toArray ?yf ?zH 171 _ hh zP (by simp[hu,hv]) (n7 _) ?hh2
    case yf=>go_simp
    case zH=>go_simp
    refine hK _ _ ⟨by simpa using hz,n9 OQ,au hb hg _,pJ.trans (rq hh _),t10,.pointer (some ⟨g,0,none⟩),t76,.agg (cg v).toArray,?_,fun h=>h3 (by rwa [bN (by decide)] at h),fun _=>⟨v,hv,rfl⟩,fun h=>(h8 (by rwa [bN (by decide)] at h)).setRow hv,fun _=>Bx5.setRow ⟨g,u,rfl,hg,hu,hh⟩ hv⟩;go_simp
   case fin=>
    rintro listed a' w' ⟨hz,OQ,hb,pJ,t10,t11,t76,t80,rfl,h3,h7,h8,h9⟩ hr;have dc:=DS hz (by kernel_rfl) hr;obtain⟨gU,u,rfl,hgU,hu,Vv⟩:=h8 (dc 8 (by decide));obtain⟨gV,v,rfl,Qt,hv,Vw⟩:=h9 (dc 9 (by decide));obtain⟨a0,a1,a2,a3,a4,rfl⟩:=mB s FG;obtain⟨u0,u1,u2,u3,u4,rfl⟩:=mB u hu;obtain⟨v0,v1,v2,v3,v4,rfl⟩:=mB v hv;have SI:=(hb.block (R+1) (by omega)).trans gHr;have sc0:w'.cell? ⟨R+1,0,none⟩=some (.int .u32 (a0.toNat:Int)):=adn _ _ 0 _ _ (0,0) SI;have sc1:w'.cell? ⟨R+1,1,none⟩=some (.int .u32 (a1.toNat:Int)):=adn _ _ 1 _ _ (0,0) SI;have sc2:w'.cell? ⟨R+1,2,none⟩=some (.int .u32 (a2.toNat:Int)):=adn _ _ 2 _ _ (0,0) SI;have sc3:w'.cell? ⟨R+1,3,none⟩=some (.int .u32 (a3.toNat:Int)):=adn _ _ 3 _ _ (0,0) SI;have sc4:w'.cell? ⟨R+1,4,none⟩=some (.int .u32 (a4.toNat:Int)):=adn _ _ 4 _ _ (0,0) SI;have uc0:w'.cell? ⟨gU,0,none⟩=some (.int .u32 (u0.toNat:Int)):=adn _ _ 0 _ _ (0,0) Vv;have uc1:w'.cell? ⟨gU,1,none⟩=some (.int .u32 (u1.toNat:Int)):=adn _ _ 1 _ _ (0,0) Vv;have uc2:w'.cell? ⟨gU,2,none⟩=some (.int .u32 (u2.toNat:Int)):=adn _ _ 2 _ _ (0,0) Vv;have uc3:w'.cell? ⟨gU,3,none⟩=some (.int .u32 (u3.toNat:Int)):=adn _ _ 3 _ _ (0,0) Vv;have uc4:w'.cell? ⟨gU,4,none⟩=some (.int .u32 (u4.toNat:Int)):=adn _ _ 4 _ _ (0,0) Vv;have vc0:w'.cell? ⟨gV,0,none⟩=some (.int .u32 (v0.toNat:Int)):=adn _ _ 0 _ _ (0,0) Vw;have vc1:w'.cell? ⟨gV,1,none⟩=some (.int .u32 (v1.toNat:Int)):=adn _ _ 1 _ _ (0,0) Vw;have vc2:w'.cell? ⟨gV,2,none⟩=some (.int .u32 (v2.toNat:Int)):=adn _ _ 2 _ _ (0,0) Vw;have vc3:w'.cell? ⟨gV,3,none⟩=some (.int .u32 (v3.toNat:Int)):=adn _ _ 3 _ _ (0,0) Vw;have vc4:w'.cell? ⟨gV,4,none⟩=some (.int .u32 (v4.toNat:Int)):=adn _ _ 4 _ _ (0,0) Vw;have GHf:=ab SI;have OR:=OP.trans (hb.mono (by omega));clear dc OQ hz hr h3 h7 h8 h9 SI Vv Vw HlL Da gHr gLr gMr gX
    have hW:(#[.int .u32 ((a1.toNat+u2.toNat+v3.toNat:Int)%4294967296),.int .u32 ((a2.toNat+u3.toNat+v4.toNat:Int)%4294967296),.int .u32 ((a3.toNat+u4.toNat+v0.toNat:Int)%4294967296),.int .u32 ((a4.toNat+u0.toNat+v1.toNat:Int)%4294967296),.int .u32 ((a0.toNat+u1.toNat+v2.toNat:Int)%4294967296)]:Array Value)=(cg [a1+u2+v3,a2+u3+v4,a3+u4+v0,a4+u0+v1,a0+u1+v2]).toArray:=by
     rw[nz,nz,nz,nz,nz];rfl
    have HW:=ab hW;clear hW
    gi_wp2_with (refine ug 171 (.tmp 3) (.tmp 121) rfl ?_)
    refine⟨?_,trivial⟩;refine oJ rfl (fun _=>trivial) 171 (.tmp 3) (.tmp 121) rfl rfl (R+1) _ rfl rfl 171 _ GHf.out (by kernel_rfl) rfl (by rw[HW.out];exact n7 _) ?_;rw[HW.out]
    gi_wp2
    have dg:∀k,k<X→k≠R+1→(w'.setRow (R+1) (cg [a1+u2+v3,a2+u3+v4,a3+u4+v0,a4+u0+v1,a0+u1+v2]).toArray).heap[k]?=W.heap[k]?:=fun k hk hn=>(setRow_other _ _ _ _ hn).trans (OR.block k hk)
    have XO:Below R W (w'.setRow (R+1) (cg [a1+u2+v3,a2+u3+v4,a3+u4+v0,a4+u0+v1,a0+u1+v2]).toArray):=au (OR.mono (by omega)) (by omega) _;exact⟨((kX.trans pJ).trans (rq GHf.out _)).from _,⟨XO,dg Bs (by omega) (by omega),dg (Bs+1) (by omega) (by omega),dg g7 (by omega) (by omega)⟩,⟨⟨_,rfl,adt _ _ _ _ _ _ GHf.out⟩,(dg R (by omega) (by omega)).trans gR,(dg g4 (by omega) (by omega)).trans gL,(dg (g4+1) (by omega) (by omega)).trans gM,(dg g7 (by omega) (by omega)).trans gG,(dg Bs (by omega) (by omega)).trans k8,(dg (Bs+1) (by omega) (by omega)).trans k9⟩,pr.trans XO⟩
end Go.Proofs.YtnlkdheaohocnaaGreatDoor
namespace Go.Proofs.YtnlkdheaohocnaaGreatDoor
open Go.RowKit Go.Shelf
theorem rZ {w:World} {g:Nat} {bs:List UInt8} {t:TypeId} {fr:Nat×Nat} (h:w.heap[g]?=some (.cells (B8 bs).toArray t fr)):Sl w w.heap.size (some ⟨g,0,none⟩) (B8 bs):=fun _=>
 ⟨g,0,rfl,(adg.1 h).1,fun j hj=>by
  rw[adn _ _ _ _ _ fr h];simp at hj;simp[hj]⟩
theorem Ce (A:Option Addr) (c:Nat) (b:List UInt8) (w:World) (hs:Sl w w.heap.size A (B8 b)) (hl:b.length≤2048) (jT:b.length≤c) (hc:c≤maxLen):
 Calls Tryz.prog 58 #[.slice A b.length c] w fun e W'=>(∃ys:List UInt8,ys.length=20∧e=.returned (.agg (B8 ys).toArray))∧Below w.heap.size w W':=by
 have jO:=hs;go_enter Tryz.func58,Tryz.ntmps58;go_wp2_with fail;obtain⟨wa,sm⟩:∃wa,wa=w.alloc (.cells (Array.replicate 20 (.int .u8 0)) 112):=⟨_,rfl⟩;have DQ:wa.heap.size=w.heap.size+1:=by rw[sm];exact adD _ _
 have ub:wa.heap[w.heap.size]?=some (.cells (Array.replicate 20 (.int .u8 0)) 112 (0,0)):=by rw[sm];exact adk w _
 have zM:Below w.heap.size w wa:=by rw[sm];exact(adl _ w).alloc (adi _) _
 refine(show wa=_ by rw[sm])▸?_;clear sm;refine(ua A c b wa ((jO.below zM).mono zM.size) hl jT hc).mono ?_;rintro e w1 ⟨rfl,bH⟩;obtain⟨oc,fU⟩:∃oc,oc=(B8 (oI b)).toArray:=⟨_,rfl⟩;have dv:oc.size=32:=by rw[fU];simp[eM]
 have fe:Hid ((Tryz.prog.info? 25).map (·.size)=some oc.size):=ab (by rw[dv];kernel_rfl);have jy:Hid ((Array.replicate 32 (Value.int .u8 0)).size=oc.size):=ab (by rw[dv];simp);have gn:Hid (oc.all (·.oneCell')=true):=ab (by rw[fU];exact all_oneCell_toArray (aR _));have kV:=bH.size;have lh:=(bH.block w.heap.size (by omega)).trans ub;have T8:=zM.trans (bH.mono zM.size);have ju:=ab (adk w1 (.cells (Array.replicate 32 (.int .u8 0)) 25));have pH:=ab fU;rw[←fU];clear fU dv jO hs ub zM;go_wp2_with (refine ado rfl 25 (.tmp 3) (.tmp 5) rfl w1.heap.size oc rfl rfl 25 _ ju.out fe.out jy.out gn.out ?_);obtain⟨w2,kT⟩:∃w2,w2=(w1.alloc (.cells (Array.replicate 32 (.int .u8 0)) 25)).setRow w1.heap.size oc:=⟨_,rfl⟩;refine(show w2=_ by rw[kT])▸?_;have bS:Below w1.heap.size w1 w2:=by rw[kT];exact au ((adl _ _).alloc (adi _) _) (adi _) _
 have g2:w2.heap[w1.heap.size]?=some (.cells (B8 (oI b)).toArray 25 (0,0)):=by rw[kT,←pH.out];exact adt _ _ _ _ _ _ ju.out
 have jt:=rZ g2;have jx:=(bS.block w.heap.size (by omega)).trans lh;have Mp:=T8.trans (bS.mono T8.size);have mo:=bS.size;clear kT g2 lh T8 bH bS ju;refine((callsIn_wide (n:=3)).1 (HJ 3 (by omega) (some ⟨w1.heap.size,0,none⟩) 32 (oI b) (eM b) (by omega) (by simp[maxLen]) w2 jt)).mono ?_;rintro e w3 ⟨⟨ys,pq,rfl⟩,b5⟩;obtain⟨yc,Rh⟩:∃yc,yc=(B8 ys).toArray:=⟨_,rfl⟩;have T9:yc.size=20:=by rw[Rh];simp[pq]
 have Ri:Hid ((Tryz.prog.info? 112).map (·.size)=some yc.size):=ab (by rw[T9];kernel_rfl);have abC:Hid ((Array.replicate 20 (Value.int .u8 0)).size=yc.size):=ab (by rw[T9];simp);have ZG:Hid (yc.all (·.oneCell')=true):=ab (by rw[Rh];exact all_oneCell_toArray (aR _));have nx:=ab ((b5.block w.heap.size (by omega)).trans jx);have DR:=Mp.trans (b5.mono Mp.size);have Hyc:=ab Rh;have QW:=ab pq;rw[←Rh];clear Rh T9 pq jx jt Mp b5;go_wp2_with (refine ado rfl 112 (.tmp 2) (.tmp 7) rfl w.heap.size yc rfl rfl 112 _ nx.out Ri.out abC.out ZG.out ?_);refine adm (v:=.agg yc) ?_ rfl ⟨⟨ys,QW.out,by rw[Hyc.out]⟩,au DR (adi _) _⟩;exact adr rfl _ _ w.heap.size 112 yc (0,0) (.array 20 5) rfl (adt _ _ _ _ _ _ nx.out) (by kernel_rfl) rfl Ri.out
end Go.Proofs.YtnlkdheaohocnaaGreatDoor
