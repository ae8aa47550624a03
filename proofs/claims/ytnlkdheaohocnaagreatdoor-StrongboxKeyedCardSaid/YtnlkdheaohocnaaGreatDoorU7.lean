/- Whoever walks down with the secret signs what whoever walks down without it verifies, and the text of either walks the same way (StrongboxKeyed). No condition. -/
import Derived.Test.YtnlkdheaohocnaaGreatDoorU1
import Derived.Test.YtnlkdheaohocnaaGreatDoorU4
import Derived.Test.YtnlkdheaohocnaaGreatDoorU5
import Derived.Great.Ranges
import Derived.Great.BuildSlice
import Derived.BigQuiet
import Derived.Shelf.RegionOpen
import Derived.Deep.QuietTactic
import Derived.StillTailTactics
import Derived.Deep.RegionHeld3
import Derived.Deep.RegionWith
import Derived.Deep.WholeRow
set_option maxRecDepth 1000000
set_option maxHeartbeats 16000000
set_option linter.unusedVariables false
set_option linter.unusedSimpArgs false
namespace Go.Proofs.YtnlkdheaohocnaaGreatDoor
open Go.RowKit Go.Shelf
def iU (rs ss:List Nat) (ks:List (BitVec 32)):List Value:=rs.map (fun r=>.int .i64 (r:Int))++ss.map (fun r=>.int .i64 (r:Int))++cg ks
theorem jV {rs ss:List Nat} {ks:List (BitVec 32)} (hr:rs.length=80) (hs:ss.length=80) (hk:ks.length=5):(iU rs ss ks).length=165:=by simp[iU,hr,hs,hk]
theorem Oz {rs ss:List Nat} {ks:List (BitVec 32)} (hr:rs.length=80) (k:Nat) (h:k<80):(iU rs ss ks)[k]?=some (.int .i64 ((rs.getD k 0:Nat):Int)):=by
 unfold iU;rw[List.append_assoc,adG (by simp;omega)];simp[show k<rs.length by omega]
theorem OA {rs ss:List Nat} {ks:List (BitVec 32)} (hr:rs.length=80) (hs:ss.length=80) (k:Nat) (h:k<80):(iU rs ss ks)[80+k]?=some (.int .i64 ((ss.getD k 0:Nat):Int)):=by
 unfold iU;rw[adG (by simp;omega),adC (by simp;omega)];simp[hr,show k<ss.length by omega]
theorem OB {rs ss:List Nat} {ks:List (BitVec 32)} (hr:rs.length=80) (hs:ss.length=80) (hk:ks.length=5) (k:Nat) (h:k<5):(iU rs ss ks)[160+k]?=some (.int .u32 ((ks.getD k 0).toNat:Int)):=by
 unfold iU;rw[adC (by simp;omega),pK];simp[hr,hs,show k<ks.length by omega]
theorem n7 (xs:List (BitVec 32)):(cg xs).toArray.all (·.oneCell')=true:=by simp[cg];intro x _;rfl
theorem mB (st:List (BitVec 32)) (h:st.length=5):∃a b c d e,st=[a,b,c,d,e]:=by
 match st,h with
 |[a,b,c,d,e],_=>exact⟨a,b,c,d,e,rfl⟩
theorem jj {w:World} {o o':Obj} {k:Nat} (h:w.heap[k]?=some o):(w.alloc o').heap[k]?=some o:=
 (Below.heap_alloc w o' k (adg.1 h).1).trans h
theorem WN (w:World) (o1 o2 o3 o4:Obj):((((w.alloc o1).alloc o2).alloc o3).alloc o4).heap[w.heap.size]?=some o1∧((((w.alloc o1).alloc o2).alloc o3).alloc o4).heap[w.heap.size+1]?=some o2∧
 ((((w.alloc o1).alloc o2).alloc o3).alloc o4).heap[w.heap.size+1+1]?=some o3∧((((w.alloc o1).alloc o2).alloc o3).alloc o4).heap[w.heap.size+1+1+1]?=some o4:=by
 have h1:=adk w o1;have h2:=adk (w.alloc o1) o2;have h3:=adk ((w.alloc o1).alloc o2) o3;have h4:=adk (((w.alloc o1).alloc o2).alloc o3) o4;simp only[adD] at h2 h3 h4;exact⟨jj (jj (jj h1)),jj (jj h2),jj h3,h4⟩
theorem AG (rs ss:List Nat) (ks:List (BitVec 32)) (hr:rs.length=80) (hs:ss.length=80) (hk:ks.length=5) (kS:∀k,k<80→rs.getD k 0<16) (iH:∀k,k<80→0<ss.getD k 0∧ss.getD k 0<32)
 (st xs:List (BitVec 32)) (fT:st.length=5) (yi:xs.length=16) (t:Bool) (w:World):
 Calls Tryz.prog 121 #[.agg (iU rs ss ks).toArray,.agg (cg st).toArray,.agg (cg xs).toArray,.bool t] w fun e W'=>(∃Sb:List (BitVec 32),Sb.length=5∧e=.returned (.agg (cg Sb).toArray))∧Below w.heap.size w W':=by
 obtain⟨T,hT⟩:∃T,T=(iU rs ss ks).toArray:=⟨_,rfl⟩;obtain⟨X,hX⟩:∃X,X=(cg xs).toArray:=⟨_,rfl⟩;obtain⟨C,hC⟩:∃C,C=(cg st).toArray:=⟨_,rfl⟩;have hTr:∀k,k<80→T[k]?=some (.int .i64 ((rs.getD k 0:Nat):Int)):=fun k h=>by rw[hT,List.getElem?_toArray];exact Oz hr k h
 have hTs:∀k,k<80→T[80+k]?=some (.int .i64 ((ss.getD k 0:Nat):Int)):=fun k h=>by rw[hT,List.getElem?_toArray];exact OA hr hs k h
 have hTk:∀k,k<5→T[160+k]?=some (.int .u32 ((ks.getD k 0).toNat:Int)):=fun k h=>by rw[hT,List.getElem?_toArray];exact OB hr hs hk k h
 have hXx:∀k,k<16→X[k]?=some (.int .u32 ((xs.getD k 0).toNat:Int)):=fun k h=>by rw[hX,List.getElem?_toArray,pK];simp[show k<xs.length by omega]
 have HTr:=ab hTr;have HTs:=ab hTs;have HTk:=ab hTk;have HXx:=ab hXx;have NO:=ab kS;have OC:=ab iH;have HC:=ab hC;rw[←hT,←hX,←hC];clear hTr hTs hTk hXx kS iH hT hX hC hr hs hk yi;go_enter Tryz.func121,Tryz.ntmps121;go_wp2_with (first|(refine wpList_boxTo rfl 175 (.tmp 0) rfl _ rfl w.heap.size rfl T rfl ?_)|(refine wpList_boxTo rfl 171 (.tmp 1) rfl _ rfl (w.heap.size+1) (by simp) C rfl ?_)|(refine wpList_boxTo rfl 177 (.tmp 2) rfl _ rfl (w.heap.size+2) (by simp) X rfl ?_));have h4:=WN w (.cells T 175) (.cells C 171) (.cells X 177) (.cells #[.int .u32 0,.int .u32 0,.int .u32 0,.int .u32 0,.int .u32 0] 171)
 have de:Below w.heap.size w ((((w.alloc (.cells T 175)).alloc (.cells C 171)).alloc (.cells X 177)).alloc (.cells #[.int .u32 0,.int .u32 0,.int .u32 0,.int .u32 0,.int .u32 0] 171)):=
  ((((adl _ w).alloc (adi _) _).alloc (by simp) _).alloc (by simp;omega) _).alloc (by simp;omega) _
 obtain⟨W0,bD⟩:∃W0,W0=((((w.alloc (.cells T 175)).alloc (.cells C 171)).alloc (.cells X 177)).alloc (.cells #[.int .u32 0,.int .u32 0,.int .u32 0,.int .u32 0,.int .u32 0] 171)):=⟨_,rfl⟩
 rw[←bD] at h4 de⊢;obtain⟨gT,gC,gX,gO⟩:=h4;rw[HC.out] at gC;clear bD;obtain⟨B,hB⟩:=ae w.heap.size;have WO:w.heap.size≤B:=by omega
 rw[←hB] at gT gC gX gO⊢;clear hB
 go_loopw [13] (fun i wr=>∃k:Nat,k≤80∧i=.int .i64 k∧(∃s:List (BitVec 32),s.length=5∧wr.heap[B+1]?=some (.cells (cg s).toArray 171 (0,0)))∧wr.heap[B]?=some (.cells T 175 (0,0))∧wr.heap[B+1+1]?=some (.cells X 177 (0,0))∧
  wr.heap[B+1+1+1]?=some (.cells #[.int .u32 0,.int .u32 0,.int .u32 0,.int .u32 0,.int .u32 0] 171 (0,0))∧Below w.heap.size w wr) (fun i _=>80-(intOf i).toNat)
 case atStart=>exact⟨0,by omega,rfl,⟨st,fT,gC⟩,gT,gX,gO,de⟩
 case round=>
  clear gT gC gX gO de;obtain⟨k,hk,rfl,⟨s,hs,gC⟩,gT,gX,gO,hb⟩:=hrel
  by_cases aV:k<80
  · obtain⟨a,b,c,d,e,rfl⟩:=mB s hs
    obtain⟨m,hm⟩:∃m,m=k/16:=⟨_,rfl⟩;have hm5:m<5:=by omega
    have WM:(k:Int)/16=(m:Int):=by omega
    have c0:wr.cell? ⟨B+1,0,none⟩=some (.int .u32 (a.toNat:Int)):=adn _ _ 0 _ _ (0,0) gC;have c1:wr.cell? ⟨B+1,1,none⟩=some (.int .u32 (b.toNat:Int)):=adn _ _ 1 _ _ (0,0) gC;have c2:wr.cell? ⟨B+1,2,none⟩=some (.int .u32 (c.toNat:Int)):=adn _ _ 2 _ _ (0,0) gC;have c3:wr.cell? ⟨B+1,3,none⟩=some (.int .u32 (d.toNat:Int)):=adn _ _ 3 _ _ (0,0) gC;have c4:wr.cell? ⟨B+1,4,none⟩=some (.int .u32 (e.toNat:Int)):=adn _ _ 4 _ _ (0,0) gC;obtain⟨r,hr⟩:=ae (rs.getD k 0);have aaA:r<16:=by rw[hr];exact NO.out k aV
    obtain⟨sh,NP⟩:=ae (ss.getD k 0);have WQ:0<sh:=by rw[NP];exact(OC.out k aV).1
    have WR:sh<32:=by rw[NP];exact(OC.out k aV).2
    obtain⟨kk,Qv⟩:=ae (ks.getD m 0);obtain⟨xx,hxx⟩:=ae (xs.getD r 0);have t0:wr.cell? ⟨B,k,none⟩=some (.int .i64 (r:Int)):=by rw[adn _ _ k _ _ (0,0) gT,HTr.out k aV,hr]
    have t1:wr.cell? ⟨B,80+k,none⟩=some (.int .i64 (sh:Int)):=by rw[adn _ _ (80+k) _ _ (0,0) gT,HTs.out k aV,NP]
    have t2:wr.cell? ⟨B,160+m,none⟩=some (.int .u32 (kk.toNat:Int)):=by rw[adn _ _ (160+m) _ _ (0,0) gT,HTk.out m hm5,Qv]
    have x0:wr.cell? ⟨B+1+1,r,none⟩=some (.int .u32 (xx.toNat:Int)):=by rw[adn _ _ r _ _ (0,0) gX,HXx.out r aaA,hxx]
    have GC:=ab gC;have GT:=ab gT;have GX:=ab gX;have GO:=ab gO;clear hm hr NP Qv hxx gC gT gX gO hs;have bx:Tryz.prog.follows .mixedOrders=true:=by kernel_rfl
    cases t
    · have hmw:m<5:=hm5
      go_wp2_with fail;refine aE [(0,0),(1,1),(2,0),(3,0),(4,1),(5,0),(6,1),(7,0),(8,1),(11,0),(12,0),(13,0),(14,1),(15,0),(16,1),(18,0),(19,0),(20,0),(21,1),(23,0),(24,0),(25,0),(26,1),(28,0),(29,1),(9,2),(10,0),(17,0),(22,0),(27,2),(30,0),(31,0)] 32 bx (by kernel_rfl) (by intro c a d v w h;cases d<;>exact h) ?_
      repeat ((first|(refine ao rfl (fun K hK=>?_))|(refine aD rfl (fun K hK=>?_)));go_simp;(first|(refine hK _ ?_)|(simp only[IntWalk.iteOmega];go_simp;refine hK _ ?_) );clear hK K;(try go_bits))
      refine ah rfl rfl (fun K hK=>?_);go_wp2_with fail;refine(Fz m (by omega) b c d _).mono ?_;rintro e' w1 ⟨⟨mx,rfl⟩,fu⟩;rw[fu];clear fu;go_wp2_with fail;refine⟨.inr (Ext.refl _),?_⟩
      repeat ((first|(refine ao rfl (fun K hK=>?_)) );go_simp;(first|(refine hK _ ?_) );clear hK K;(try go_bits))
      refine ah rfl rfl (fun K hK=>?_);go_wp2_with fail;rw[x9];refine(mA (a+mx+xx+kk) sh WQ WR _).mono ?_;rintro e' w1 ⟨rfl,fu⟩;rw[fu];clear fu;obtain⟨y1,KM⟩:∃y1,y1=(a+mx+xx+kk).rotateLeft sh:=⟨_,rfl⟩;rw[←KM];clear KM;go_wp2_with fail;refine⟨.inr (Ext.refl _),?_⟩
      repeat ((first|(refine ao rfl (fun K hK=>?_)) );go_simp;(first|(refine hK _ ?_) );clear hK K;(try go_bits))
      refine aB ?_;go_wp2_with fail;rw[qX];obtain⟨y2,zH⟩:∃y2,y2=y1+e:=⟨_,rfl⟩;rw[←zH];clear zH;refine aE [(0,0),(1,1),(2,0),(3,0),(4,1),(5,0),(6,1),(8,0),(9,1),(7,2),(10,2),(11,2)] 11 bx (by kernel_rfl) (by intro c a d v w h;cases d<;>exact h) ?_
      repeat ((first|(refine ao rfl (fun K hK=>?_))|(refine aD rfl (fun K hK=>?_)));go_simp;(first|(refine hK _ ?_) );clear hK K;(try go_bits))
      refine ah rfl rfl (fun K hK=>?_);go_wp2_with fail;refine(mA c 10 (by omega) (by omega) _).mono ?_;rintro e' w1 ⟨rfl,fu⟩;rw[fu];clear fu;obtain⟨y3,OD⟩:=ae (c.rotateLeft 10);rw[←OD];clear OD;go_wp2_with fail;refine⟨.inr (Ext.refl _),?_⟩;refine ah rfl rfl (fun K hK=>?_);go_wp2_with fail;refine⟨.inr (Ext.refl _),?_⟩;refine ah rfl rfl (fun K hK=>?_);refine wp_store_row 171 (.tmp 5) (.tmp 63) rfl (B+1) (cg [e,y2,b,y3,d]).toArray rfl rfl 171 _ GC.out (by kernel_rfl) rfl (n7 _) ?_;refine hK _ _ ⟨.inl (by decide),?_⟩;clear hK K;refine aB ?_;go_wp2_with fail;refine⟨⟨k+1,by omega,by go_num,⟨_,rfl,adt _ _ _ _ _ _ GC.out⟩,(setRow_other _ _ _ _ (by omega)).trans GT.out,(setRow_other _ _ _ _ (by omega)).trans GX.out,(setRow_other _ _ _ _ (by omega)).trans GO.out,au hb.drew.drew (by omega) _⟩,by simp[intOf];omega⟩
    obtain⟨m4,hm4⟩:∃m4,m4=4-m:=⟨_,rfl⟩;have acr:(4:Int)-(m:Int)=(m4:Int):=by omega
    clear hm4;go_wp2_with fail;refine aE [(0,0),(1,1),(2,0),(3,0),(4,1),(5,0),(6,1),(7,0),(8,1),(11,0),(12,0),(13,0),(14,1),(15,0),(16,1),(18,0),(19,0),(20,0),(21,1),(23,0),(24,0),(25,0),(26,1),(28,0),(29,1),(9,2),(10,0),(17,0),(22,0),(27,2),(30,0),(31,0)] 32 bx (by kernel_rfl) (by intro c a d v w h;cases d<;>exact h) ?_
    repeat ((first|(refine ao rfl (fun K hK=>?_))|(refine aD rfl (fun K hK=>?_)));go_simp;(first|(refine hK _ ?_)|(simp only[IntWalk.iteOmega];go_simp;refine hK _ ?_) );clear hK K;(try go_bits))
    refine ah rfl rfl (fun K hK=>?_);go_wp2_with fail;refine(Fz m4 (by omega) b c d _).mono ?_;rintro e' w1 ⟨⟨mx,rfl⟩,fu⟩;rw[fu];clear fu;go_wp2_with fail;refine⟨.inr (Ext.refl _),?_⟩
    repeat ((first|(refine ao rfl (fun K hK=>?_)) );go_simp;(first|(refine hK _ ?_) );clear hK K;(try go_bits))
    refine ah rfl rfl (fun K hK=>?_);go_wp2_with fail;rw[x9];refine(mA (a+mx+xx+kk) sh WQ WR _).mono ?_;rintro e' w1 ⟨rfl,fu⟩;rw[fu];clear fu;obtain⟨y1,KM⟩:∃y1,y1=(a+mx+xx+kk).rotateLeft sh:=⟨_,rfl⟩;rw[←KM];clear KM;go_wp2_with fail;refine⟨.inr (Ext.refl _),?_⟩
    repeat ((first|(refine ao rfl (fun K hK=>?_)) );go_simp;(first|(refine hK _ ?_) );clear hK K;(try go_bits))
    refine aB ?_;go_wp2_with fail;rw[qX];obtain⟨y2,zH⟩:∃y2,y2=y1+e:=⟨_,rfl⟩;rw[←zH];clear zH;refine aE [(0,0),(1,1),(2,0),(3,0),(4,1),(5,0),(6,1),(8,0),(9,1),(7,2),(10,2),(11,2)] 11 bx (by kernel_rfl) (by intro c a d v w h;cases d<;>exact h) ?_
    repeat ((first|(refine ao rfl (fun K hK=>?_))|(refine aD rfl (fun K hK=>?_)));go_simp;(first|(refine hK _ ?_) );clear hK K;(try go_bits))
    refine ah rfl rfl (fun K hK=>?_);go_wp2_with fail;refine(mA c 10 (by omega) (by omega) _).mono ?_;rintro e' w1 ⟨rfl,fu⟩;rw[fu];clear fu;obtain⟨y3,OD⟩:=ae (c.rotateLeft 10);rw[←OD];clear OD;go_wp2_with fail;refine⟨.inr (Ext.refl _),?_⟩;refine ah rfl rfl (fun K hK=>?_);go_wp2_with fail;refine⟨.inr (Ext.refl _),?_⟩;refine ah rfl rfl (fun K hK=>?_);refine wp_store_row 171 (.tmp 5) (.tmp 63) rfl (B+1) (cg [e,y2,b,y3,d]).toArray rfl rfl 171 _ GC.out (by kernel_rfl) rfl (n7 _) ?_;refine hK _ _ ⟨.inl (by decide),?_⟩;clear hK K;refine aB ?_;go_wp2_with fail;refine⟨⟨k+1,by omega,by go_num,⟨_,rfl,adt _ _ _ _ _ _ GC.out⟩,(setRow_other _ _ _ _ (by omega)).trans GT.out,(setRow_other _ _ _ _ (by omega)).trans GX.out,(setRow_other _ _ _ _ (by omega)).trans GO.out,au hb.drew.drew (by omega) _⟩,by simp[intOf];omega⟩
  obtain rfl:k=80:=by omega
  obtain⟨cs,eA⟩:∃cs,cs=(cg s).toArray:=⟨_,rfl⟩;have lZ:cs.size=5:=by rw[eA];simp[hs]
  have gn:Hid (cs.all (·.oneCell')=true):=ab (by rw[eA];simp[cg];intro x _;rfl);have fe:Hid ((Tryz.prog.info? 171).map (·.size)=some cs.size):=ab (by rw[lZ];kernel_rfl);have KN:Hid (5=cs.size):=ab lZ.symm;rw[←eA] at gC;have DF:=ab eA;have GC:=ab gC;have GO:=ab gO;clear eA lZ gC gT gX gO;go_wp2_with (first|(refine adw rfl 171 (.tmp 5) rfl (B+1) rfl 171 cs (0,0) _ GC.out Tryz.underlying171 rfl fe.out ?_)|(refine wpList_store_rowTo rfl 171 (.tmp 8) (.tmp 65) rfl rfl (B+1+1+1) cs rfl rfl 171 _ GO.out fe.out KN.out gn.out ?_));refine adm (v:=.agg cs) ?_ rfl ⟨⟨s,hs,by rw[DF.out]⟩,au hb (by omega) _⟩;exact adr rfl _ _ (B+1+1+1) 171 cs (0,0) _ rfl (adt _ _ _ _ _ _ GO.out) Tryz.underlying171 rfl fe.out
def rL:List Nat:=[0,1,2,3,4,5,6,7,8,9,10,11,12,13,14,15,7,4,13,1,10,6,15,3,12,0,9,5,2,14,11,8,3,10,14,4,9,15,8,1,2,7,0,6,13,11,5,12,1,9,11,10,0,8,12,4,13,3,7,15,14,5,6,2,4,0,5,9,7,12,2,10,14,1,3,8,11,6,15,13]
def sL:List Nat:=[11,14,15,12,5,8,7,9,11,13,14,15,6,7,9,8,7,6,8,13,11,9,7,15,7,12,15,9,11,7,13,12,11,13,6,7,14,9,13,15,14,8,13,6,5,12,7,5,11,12,14,15,14,15,9,8,9,14,5,6,8,6,5,12,9,15,5,11,6,8,13,12,5,12,13,14,11,8,5,6]
def kL:List (BitVec 32):=[0,0x5a827999,0x6ed9eba1,0x8f1bbcdc,0xa953fd4e]
def rR:List Nat:=[5,14,7,0,9,2,11,4,13,6,15,8,1,10,3,12,6,11,3,7,0,13,5,10,14,15,8,12,4,9,1,2,15,5,1,3,7,14,6,9,11,8,12,2,10,0,4,13,8,6,4,1,3,11,15,0,5,12,2,13,9,7,10,14,12,15,10,4,1,5,8,7,6,2,13,14,0,3,9,11]
def sR:List Nat:=[8,9,9,11,13,15,15,5,7,7,8,11,14,14,12,6,9,13,15,7,12,8,9,11,7,7,12,7,6,15,13,11,9,7,15,11,8,6,6,14,12,13,5,14,13,13,7,5,15,5,8,11,14,14,6,14,6,9,12,9,12,5,15,8,8,5,12,9,12,5,14,6,8,13,6,5,15,13,11,11]
def kR:List (BitVec 32):=[0x50a28be6,0x5c4dd124,0x6d703ef3,0x7a6d76e9,0]
theorem pT {p:Nat→Bool} {l:List Nat} (h:l.all p=true) (k:Nat) (hk:k<l.length):p (l.getD k 0)=true:=by
 rw[List.getD_eq_getElem?_getD,adp hk];exact List.all_eq_true.1 h _ (List.getElem_mem hk)
theorem yl:rL.length=80:=by decide
theorem ym:sL.length=80:=by decide
theorem DG:kL.length=5:=by decide
theorem yo:rR.length=80:=by decide
theorem yp:sR.length=80:=by decide
theorem DH:kR.length=5:=by decide
theorem WS (k:Nat) (h:k<80):rL.getD k 0<16:=by have:=pT (p:=fun x=>decide (x<16)) (l:=rL) (by decide) k (by rw[yl];exact h);simpa using this
theorem WT (k:Nat) (h:k<80):rR.getD k 0<16:=by have:=pT (p:=fun x=>decide (x<16)) (l:=rR) (by decide) k (by rw[yo];exact h);simpa using this
theorem WU (k:Nat) (h:k<80):0<sL.getD k 0∧sL.getD k 0<32:=by have:=pT (p:=fun x=>decide (0<x∧x<32)) (l:=sL) (by decide) k (by rw[ym];exact h);simpa using this
theorem WV (k:Nat) (h:k<80):0<sR.getD k 0∧sR.getD k 0<32:=by have:=pT (p:=fun x=>decide (0<x∧x<32)) (l:=sR) (by decide) k (by rw[yp];exact h);simpa using this
def OE (l:List Nat):Array Value:=(l.map fun (r:Nat)=>Value.int .i64 (r:Int)).toArray
theorem n8 (rs ss:List Nat) (ks:List (BitVec 32)):(iU rs ss ks).toArray.all (·.oneCell')=true:=by
 apply all_oneCell_toArray;intro v hv;simp only[iU,cg,List.mem_append,List.mem_map] at hv;rcases hv with (⟨_,_,rfl⟩|⟨_,_,rfl⟩)|⟨_,_,rfl⟩<;>rfl
theorem yq (w:World):Calls Tryz.prog 119 #[] w fun e w'=>e=.returned (.agg (iU rL sL kL).toArray)∧Below w.heap.size w w':=by
 obtain⟨A1,FA⟩:=ae (OE rL);obtain⟨A2,yr⟩:=ae (OE sL);obtain⟨A3,C1⟩:∃A3,A3=(cg kL).toArray:=⟨_,rfl⟩;obtain⟨C,hC⟩:∃C,C=(iU rL sL kL).toArray:=⟨_,rfl⟩;have hb:Tryz.prog.built 175 [(0,.agg A1),(1,.agg A2),(2,.agg A3)]=some C:=by rw[FA,yr,C1,hC];kernel_rfl
 have eD:C.size=165:=by rw[hC,List.size_toArray,jV yl ym DG]
 have H1:Hid (C.all (·.oneCell')=true):=ab (by rw[hC];exact n8 _ _ _);have fe:Hid ((Tryz.prog.info? 175).map (·.size)=some C.size):=ab (by rw[eD];kernel_rfl);have nn:Hid (Tryz.zeroCells175.size=C.size):=ab (by rw[eD];kernel_rfl);have HA1:=ab FA;have WW:=ab yr;have KO:=ab C1;have Hb:=ab hb;rw[←hC];clear FA yr C1 hC hb eD;go_enter Tryz.func119,Tryz.ntmps119;go_wp2_with (first|(refine wpList_buildTo rfl 173 _ rfl (some 1) rfl A1 (by rw[HA1.out];kernel_rfl) ?_)|(refine wpList_buildTo rfl 173 _ rfl (some 2) rfl A2 (by rw[WW.out];kernel_rfl) ?_)|(refine wpList_buildTo rfl 171 _ rfl (some 3) rfl A3 (by rw[KO.out];kernel_rfl) ?_)|((refine wpList_buildTo rfl 175 _ rfl (some 4) rfl C ?gg ?_;(case gg=>have h:=Hb.out;simpa [Act.eval,Act.put] using h)))|(refine wpList_store_rowTo rfl 175 (.tmp 0) (.tmp 4) rfl rfl w.heap.size C rfl rfl 175 _ (adk w _) fe.out nn.out H1.out ?_) );refine adm (v:=.agg C) ?_ rfl ⟨rfl,au ((adl _ w).alloc (adi _) _) (adi _) _⟩;exact adr rfl _ _ w.heap.size 175 C (0,0) _ rfl (adt _ _ _ _ _ _ (adk w _)) Tryz.underlying175 rfl fe.out
theorem vO (w:World):Calls Tryz.prog 120 #[] w fun e w'=>e=.returned (.agg (iU rR sR kR).toArray)∧Below w.heap.size w w':=by
 obtain⟨A1,FA⟩:=ae (OE rR);obtain⟨A2,yr⟩:=ae (OE sR);obtain⟨A3,C1⟩:∃A3,A3=(cg kR).toArray:=⟨_,rfl⟩;obtain⟨C,hC⟩:∃C,C=(iU rR sR kR).toArray:=⟨_,rfl⟩;have hb:Tryz.prog.built 175 [(0,.agg A1),(1,.agg A2),(2,.agg A3)]=some C:=by rw[FA,yr,C1,hC];kernel_rfl
 have eD:C.size=165:=by rw[hC,List.size_toArray,jV yo yp DH]
 have H1:Hid (C.all (·.oneCell')=true):=ab (by rw[hC];exact n8 _ _ _);have fe:Hid ((Tryz.prog.info? 175).map (·.size)=some C.size):=ab (by rw[eD];kernel_rfl);have nn:Hid (Tryz.zeroCells175.size=C.size):=ab (by rw[eD];kernel_rfl);have HA1:=ab FA;have WW:=ab yr;have KO:=ab C1;have Hb:=ab hb;rw[←hC];clear FA yr C1 hC hb eD;go_enter Tryz.func120,Tryz.ntmps120;go_wp2_with (first|(refine wpList_buildTo rfl 173 _ rfl (some 1) rfl A1 (by rw[HA1.out];kernel_rfl) ?_)|(refine wpList_buildTo rfl 173 _ rfl (some 2) rfl A2 (by rw[WW.out];kernel_rfl) ?_)|(refine wpList_buildTo rfl 171 _ rfl (some 3) rfl A3 (by rw[KO.out];kernel_rfl) ?_)|((refine wpList_buildTo rfl 175 _ rfl (some 4) rfl C ?gg ?_;(case gg=>have h:=Hb.out;simpa [Act.eval,Act.put] using h)))|(refine wpList_store_rowTo rfl 175 (.tmp 0) (.tmp 4) rfl rfl w.heap.size C rfl rfl 175 _ (adk w _) fe.out nn.out H1.out ?_) );refine adm (v:=.agg C) ?_ rfl ⟨rfl,au ((adl _ w).alloc (adi _) _) (adi _) _⟩;exact adr rfl _ _ w.heap.size 175 C (0,0) _ rfl (adt _ _ _ _ _ _ (adk w _)) Tryz.underlying175 rfl fe.out
end Go.Proofs.YtnlkdheaohocnaaGreatDoor
namespace Go.Proofs.YtnlkdheaohocnaaGreatDoor
open Go Go.RowKit
section
variable {P:Program} {ops:Array Oper} {md:Region.Mode}
variable {Q:Act→World→Prop} {st:Nat→(Act→World→Prop)→Act→World→Prop} {N:Nat}
def KZ (P:Program) (ops:Array Oper) (Q:Act→World→Prop) (st:Nat→(Act→World→Prop)→Act→World→Prop) (N:Nat) (iV:List (Nat×List (Nat×Nat))) (a:Act) (w:World):Prop:=
 ∀f∈iV,st f.1 (fun a' w'=>Ext w w'∧aI P ops Q st N f.2 a' w') a w
def tZ (md:Region.Mode) (ops:Array Oper) (N m:Nat) (iV:List (Nat×List (Nat×Nat))):List (Nat×Nat)→Array Bool→Bool
 |[],listed=>(Region.ready md ops listed==iV.map (·.1))&&(!iV.isEmpty)&&iV.all fun f=>decide (f.2.length=m)&&jo md ops N f.2 (listed.setIfInBounds f.1 true)
 |(i,k)::rest,listed=>
  (if k=0 then (Region.ready md ops listed).contains i&&Region.free md ops listed i&&decide (i<N)
   else if k=1 then (Region.ready md ops listed).contains i&&Region.free md ops listed i&&decide (i<N)&&((List.range ops.size).all fun j=>decide (j<N)||Vg md ops ops.size j i)
   else (Region.ready md ops listed==[i])&&decide (i<N))&&tZ md ops N m iV rest (listed.setIfInBounds i true)
theorem ld (L:cF P ops Q st) (dm:Region.noSelect ops=true) (m:Nat) (iV:List (Nat×List (Nat×Nat))):∀(bV:List (Nat×Nat)) (listed:Array Bool) (a:Act) (w w0:World),
 tZ md ops N m iV bV listed=true→Closed md ops listed→listed.size=ops.size→Ext w0 w→aI P ops (KZ P ops Q st N iV) st N bV a w→eL md ops Q st N (Ext w0) (bV.length+(m+1)) listed a w
 |[],listed,a,w,w0,hB,gb,eD,hE,h=>by
  simp only[tZ,adx,Bool.not_eq_true'] at hB;obtain⟨⟨hr,bN⟩,dc⟩:=hB;have hr:Region.ready md ops listed=iV.map (·.1):=by simpa using hr
  rw[List.length_nil,Nat.zero_add];refine⟨fun h0=>(by rw[h0] at hr;cases iV with|nil=>simp at bN|cons x xs=>simp at hr),fun j hj=>?_⟩;have zB:=hj;rw[hr] at zB;obtain⟨f,hf,rfl⟩:=List.mem_map.1 zB;have K0:=List.all_eq_true.1 dc f hf;simp only[adx,adB] at K0;have fT:st f.1 (fun a' w'=>Ext w w'∧aI P ops Q st N f.2 a' w') a w:=h f hf;refine L.mono (fun a' w' h'=>?_) fT;have vH:=hE.trans h'.1;have:=ic L dm f.2 _ a' w' w0 0 K0.2 (gb.set hj) (by simpa using eD) vH h'.2;rw[Nat.add_zero,K0.1] at this;exact⟨.inr vH,this⟩
 |(i,k)::rest,listed,a,w,w0,hB,gb,eD,hE,h=>by
  have Of:=hB
  by_cases iR:k=0
  · simp only[tZ,iR,if_true,adx,adB] at hB
    obtain⟨⟨⟨hr,hf⟩,na⟩,du⟩:=hB;have mV:i∈Region.ready md ops listed:=by simpa using hr
    simp only[aI,iR,if_true] at h;split at h
    · exact h.elim
    rename_i o ho;obtain⟨v,hy,hK⟩:=h;have nj:=ld L dm m iV rest (listed.setIfInBounds i true) (a.put o.dst v) w w0 du (gb.set mV) (by simpa using eD) hE hK;have h1:=cV L (S:=Ext w0) (S1:=fun _=>True) ho (Region.noSelect_spec dm) na (fun _ _ _ _ _=>trivial) (rest.length+(m+1)) listed a w gb (Region.free_spec ho hf) mV hy (.inr hE) nj;rw[adz,show rest.length+1+(m+1)=rest.length+(m+1)+1 by omega];exact h1
  by_cases ko:k=1
  · subst ko
    simp only[tZ,if_true,adx,adB,Nat.one_ne_zero,if_false] at hB;obtain⟨⟨⟨⟨hr,hf⟩,na⟩,Ko⟩,du⟩:=hB;have mV:i∈Region.ready md ops listed:=by simpa using hr
    simp only[aI,if_true,Nat.one_ne_zero,if_false] at h;split at h
    · exact h.elim
    rename_i o ho;obtain⟨v,hy,hK⟩:=h;have nj:=ld L dm m iV rest (listed.setIfInBounds i true) (a.put o.dst v) w w du (gb.set mV) (by simpa using eD) (Ext.refl w) hK
    have h1:=cV L (S:=Ext w) (S1:=Ext w) ho (Region.noSelect_spec dm) na (fun l w' hc hu ht=>by
     rcases ht with ⟨t,ht,hl⟩|h
     · exfalso
       have Fm:t<ops.size∨¬t<ops.size:=Decidable.em _;rcases Fm with Fm|Fm
       · have:=List.all_eq_true.1 Ko t (List.mem_range.2 Fm)
         simp only[Bool.or_eq_true,adB] at this;have:=o8 hc _ _ _ hl (this.resolve_left (by omega));rw[ee hu] at this
         cases this
       rw[show l.getD t false=false by simp[Array.getElem?_eq_none (show l.size≤t by rw[hc.1];omega)]] at hl
       cases hl
     exact h) (rest.length+(m+1)) listed a w gb (Region.free_spec ho hf) mV hy (.inr (Ext.refl w)) nj
    rw[adz,show rest.length+1+(m+1)=rest.length+(m+1)+1 by omega];exact kW L (fun w' GA=>hE.trans GA) _ _ _ _ h1
  simp only[tZ,iR,ko,if_false,adx,adB] at hB;obtain⟨⟨hr,na⟩,du⟩:=hB;have hr:Region.ready md ops listed=[i]:=by simpa using hr
  have mV:i∈Region.ready md ops listed:=by rw[hr];simp
  rw[adz,show rest.length+1+(m+1)=rest.length+(m+1)+1 by omega];refine⟨fun h0=>(by rw[h0] at hr;cases hr),fun j hj=>?_⟩;rw[hr] at hj;obtain rfl:j=i:=by simpa using hj
  simp only[aI,iR,ko,if_false] at h;refine L.mono (fun a' w' h'=>?_) h;have vH:=hE.trans (h'.1.resolve_left (by omega));exact⟨.inr vH,ld L dm m iV rest _ a' w' w0 du (gb.set mV) (by simpa using eD) vH h'.2⟩
end
section
variable {P:Program} {ops:Array Oper} {N:Nat}
theorem iL {id:Nat} {Q:Exit→Act→World→Prop} {a:Act} {w:World} {l:List Oper} (bV:List (Nat×Nat)) (m:Nat) (iV:List (Nat×List (Nat×Nat))) (N:Nat) (hm:P.follows .mixedOrders=true)
 (hB:(Region.noSelect l.toArray&&decide (bV.length+(m+1)=l.length)&&tZ .any l.toArray N m iV bV (Array.replicate l.length false))=true) (hQ:∀c a d v w,Q (.panic c) (Act.put a d v) w→Q (.panic c) a w)
 (h:aI P l.toArray (KZ P l.toArray (Q .normal) (fun i K a w=>wpOp P l.toArray Q i K a w) N iV) (fun i K a w=>wpOp P l.toArray Q i K a w) N bV a w.drew):(Code.region id l.toArray true).wp P Q a w:=by
 simp only[adx,adB] at hB;refine wp_region_any hm ?_
 have:=ld (aJ Q hQ) hB.1.1 m iV bV (Array.replicate l.length false) a w.drew w.drew hB.2 ⟨by simp,fun j oj hj hl=>by
  rcases Nat.lt_or_ge j l.length with h|h
  · simp[h] at hl
  simp[h] at hl⟩ (by simp) (Ext.refl _) h
 rw[hB.1.2] at this;have:=ie _ _ _ _ this;simpa using this
theorem lf {Q:Exit→Act→World→Prop} {i j:Nat} {pi pj:List (Nat×Nat)} {oi oj:Oper} {a:Act} {w:World} (hoi:ops[i]?=some oi) (RL:ops[j]?=some oj) (hgi:oi.guard=none) (hgj:oj.guard=none)
 (h1:∀K:Act→World→Prop,(∀a' w',(Ext w w'∧aI P ops (Q .normal) (fun i K a w=>wpOp P ops Q i K a w) N pi a' w')→K a' w')→oi.wp P a w K Q)
 (h2:∀K:Act→World→Prop,(∀a' w',(Ext w w'∧aI P ops (Q .normal) (fun i K a w=>wpOp P ops Q i K a w) N pj a' w')→K a' w')→oj.wp P a w K Q):
 aI P ops (KZ P ops (Q .normal) (fun i K a w=>wpOp P ops Q i K a w) N [(i,pi),(j,pj)]) (fun i K a w=>wpOp P ops Q i K a w) N [] a w:=by
 intro f hf;simp only[List.mem_cons,List.not_mem_nil,or_false] at hf;rcases hf with rfl|rfl
 · simp only[wpOp,hoi,Region.wanted,hgi,if_true]
   exact .inl (h1 _ (fun _ _ h=>h))
 simp only[wpOp,RL,Region.wanted,hgj,if_true];exact .inl (h2 _ (fun _ _ h=>h))
end
end Go.Proofs.YtnlkdheaohocnaaGreatDoor
namespace Go.Proofs.YtnlkdheaohocnaaGreatDoor
open Go Go.RowKit
section
variable {P:Program} {ops:Array Oper} {md:Region.Mode}
variable {Q:Act→World→Prop} {st:Nat→(Act→World→Prop)→Act→World→Prop} {N:Nat}
def pX (md:Region.Mode) (ops:Array Oper) (listed:Array Bool):Bool:=
 decide (listed.size=ops.size)&&(List.range ops.size).all fun j=>!(listed.getD j false)||(match ops[j]? with|some oj=>oj.after.all fun e=>!(Region.binds md e)||listed.getD e.on false|none=>true)
theorem mC {listed:Array Bool} (h:pX md ops listed=true):Closed md ops listed:=by
 simp only[pX,adx,adB,List.all_eq_true,List.mem_range,Bool.or_eq_true,Bool.not_eq_true'] at h;refine⟨h.1,fun j oj hj hl e he hb=>?_⟩;have Ou:j<ops.size:=(adg.1 hj).1;rcases h.2 j Ou with h1|h1
 · rw[hl] at h1;cases h1
 rw[hj] at h1;have h2:=Array.all_eq_true_iff_forall_mem.1 h1 e he;simp only[Bool.or_eq_true,Bool.not_eq_true'] at h2;rcases h2 with h2|h2
 · rw[hb] at h2;cases h2
 exact h2
def OL (md:Region.Mode) (ops:Array Oper) (Q:Act→World→Prop) (st:Nat→(Act→World→Prop)→Act→World→Prop) (N:Nat) (listed:Array Bool) (n:Nat) (C:Act→World→Prop):Prop:=
 ∀a w w0,Ext w0 w→C a w→eL md ops Q st N (Ext w0) n listed a w
def Qy (st:Nat→(Act→World→Prop)→Act→World→Prop) (i:Nat) (Ci:Act→World→Prop) (j:Nat) (Cj:Act→World→Prop) (a:Act) (w:World):Prop:=
 st i (fun a' w'=>Ext w w'∧Ci a' w') a w∧st j (fun a' w'=>Ext w w'∧Cj a' w') a w
theorem cq (L:cF P ops Q st) (dm:Region.noSelect ops=true) (bV:List (Nat×Nat)) (listed:Array Bool) (hB:(jo md ops N bV listed&&pX md ops listed)=true):OL md ops Q st N listed bV.length (aI P ops Q st N bV):=by
 intro a w w0 hE h;simp only[adx] at hB;have hc:=mC hB.2;have:=ic L dm bV listed a w w0 0 hB.1 hc hc.1 hE h;simpa using this
theorem ei (L:cF P ops Q st) (i j n:Nat) (listed:Array Bool) (hr:(Region.ready md ops listed==[i,j])=true) {Ci Cj:Act→World→Prop}
 (hi:OL md ops Q st N (listed.setIfInBounds i true) n Ci) (hj:OL md ops Q st N (listed.setIfInBounds j true) n Cj):OL md ops Q st N listed (n+1) (Qy st i Ci j Cj):=by
 intro a w w0 hE h;have hr:Region.ready md ops listed=[i,j]:=by simpa using hr
 refine⟨fun h0=>(by rw[hr] at h0;cases h0),fun k hk=>?_⟩;rw[hr] at hk;simp only[List.mem_cons,List.not_mem_nil,or_false] at hk;rcases hk with rfl|rfl
 · exact L.mono (fun a' w' h'=>have vH:=hE.trans h'.1;⟨.inr vH,hi a' w' w0 vH h'.2⟩) h.1
 exact L.mono (fun a' w' h'=>have vH:=hE.trans h'.1;⟨.inr vH,hj a' w' w0 vH h'.2⟩) h.2
def HI (md:Region.Mode) (ops:Array Oper) (N:Nat):List (Nat×Nat)→Array Bool→Bool
 |[],_=>true
 |(i,k)::rest,listed=>
  (if k=0 then (Region.ready md ops listed).contains i&&Region.free md ops listed i&&decide (i<N)
   else if k=1 then (Region.ready md ops listed).contains i&&Region.free md ops listed i&&decide (i<N)&&((List.range ops.size).all fun j=>decide (j<N)||Vg md ops ops.size j i)
   else (Region.ready md ops listed==[i])&&decide (i<N))&&HI md ops N rest (listed.setIfInBounds i true)
def pY:List (Nat×Nat)→Array Bool→Array Bool
 |[],l=>l
 |(i,_)::rest,l=>pY rest (l.setIfInBounds i true)
theorem tj (L:cF P ops Q st) (dm:Region.noSelect ops=true) (n:Nat) {C:Act→World→Prop}:∀(pre:List (Nat×Nat)) (listed:Array Bool),
 HI md ops N pre listed=true→Closed md ops listed→OL md ops Q st N (pY pre listed) n C→OL md ops Q st N listed (pre.length+n) (aI P ops C st N pre)
 |[],listed,_,_,hS=>by
  intro a w w0 hE h;rw[List.length_nil,Nat.zero_add];exact hS a w w0 hE h
 |(i,k)::rest,listed,hB,gb,hS=>by
  intro a w w0 hE h;have hlen:((i,k)::rest).length+n=(rest.length+n)+1:=by simp;omega
  rw[hlen]
  by_cases iR:k=0
  · simp only[HI,iR,if_true,adx,adB] at hB
    obtain⟨⟨⟨hr,hf⟩,na⟩,du⟩:=hB;have mV:i∈Region.ready md ops listed:=by simpa using hr
    simp only[aI,iR,if_true] at h;split at h
    · exact h.elim
    rename_i o ho;obtain⟨v,hy,hK⟩:=h;have nj:=tj L dm n rest (listed.setIfInBounds i true) du (gb.set mV) hS (a.put o.dst v) w w0 hE hK;exact cV L (S:=Ext w0) (S1:=fun _=>True) ho (Region.noSelect_spec dm) na (fun _ _ _ _ _=>trivial) (rest.length+n) listed a w gb (Region.free_spec ho hf) mV hy (.inr hE) nj
  by_cases ko:k=1
  · subst ko
    simp only[HI,if_true,adx,adB,Nat.one_ne_zero,if_false] at hB;obtain⟨⟨⟨⟨hr,hf⟩,na⟩,Ko⟩,du⟩:=hB;have mV:i∈Region.ready md ops listed:=by simpa using hr
    simp only[aI,if_true,Nat.one_ne_zero,if_false] at h;split at h
    · exact h.elim
    rename_i o ho;obtain⟨v,hy,hK⟩:=h;have nj:=tj L dm n rest (listed.setIfInBounds i true) du (gb.set mV) hS (a.put o.dst v) w w (Ext.refl w) hK
    have h1:=cV L (S:=Ext w) (S1:=Ext w) ho (Region.noSelect_spec dm) na (fun l w' hc hu ht=>by
     rcases ht with ⟨t,ht,hl⟩|h
     · exfalso
       have Fm:t<ops.size∨¬t<ops.size:=Decidable.em _;rcases Fm with Fm|Fm
       · have:=List.all_eq_true.1 Ko t (List.mem_range.2 Fm)
         simp only[Bool.or_eq_true,adB] at this;have:=o8 hc _ _ _ hl (this.resolve_left (by omega));rw[ee hu] at this
         cases this
       rw[show l.getD t false=false by simp[Array.getElem?_eq_none (show l.size≤t by rw[hc.1];omega)]] at hl
       cases hl
     exact h) (rest.length+n) listed a w gb (Region.free_spec ho hf) mV hy (.inr (Ext.refl w)) nj
    exact kW L (fun w' GA=>hE.trans GA) _ _ _ _ h1
  simp only[HI,iR,ko,if_false,adx,adB] at hB;obtain⟨⟨hr,na⟩,du⟩:=hB;have hr:Region.ready md ops listed=[i]:=by simpa using hr
  have mV:i∈Region.ready md ops listed:=by rw[hr];simp
  refine⟨fun h0=>(by rw[h0] at hr;cases hr),fun j hj=>?_⟩;rw[hr] at hj;obtain rfl:j=i:=by simpa using hj
  simp only[aI,iR,ko,if_false] at h;refine L.mono (fun a' w' h'=>?_) h;have vH:=hE.trans (h'.1.resolve_left (by omega));exact⟨.inr vH,tj L dm n rest _ du (gb.set mV) hS a' w' w0 vH h'.2⟩
theorem ek (L:cF P ops Q st) (dm:Region.noSelect ops=true) (n:Nat) {C:Act→World→Prop} (pre:List (Nat×Nat)) (listed:Array Bool) (hB:(HI md ops N pre listed&&pX md ops listed)=true)
 (h:OL md ops Q st N (pY pre listed) n C):OL md ops Q st N listed (pre.length+n) (aI P ops C st N pre):=by
 simp only[adx] at hB;exact tj L dm n pre listed hB.1 (mC hB.2) h
end
section
variable {P:Program} {ops:Array Oper} {N:Nat}
theorem eo {id:Nat} {Q:Exit→Act→World→Prop} {a:Act} {w:World} {l:List Oper} (C:Act→World→Prop) (N n:Nat) (hm:P.follows .mixedOrders=true) (hn:(n==l.length)=true) (hQ:∀c a d v w,Q (.panic c) (Act.put a d v) w→Q (.panic c) a w)
 (hS:OL .any l.toArray (Q .normal) (fun i K a w=>wpOp P l.toArray Q i K a w) N (Array.replicate l.length false) n C) (h:C a w.drew):(Code.region id l.toArray true).wp P Q a w:=by
 refine wp_region_any hm ?_;have hn:n=l.length:=by simpa using hn
 subst hn;have:=hS a w.drew w.drew (Ext.refl _) h;have:=ie _ _ _ _ this;simpa using this
theorem ep {Q:Exit→Act→World→Prop} {i j:Nat} {Ci Cj:Act→World→Prop} {oi oj:Oper} {a:Act} {w:World} (hoi:ops[i]?=some oi) (RL:ops[j]?=some oj) (hgi:oi.guard=none) (hgj:oj.guard=none)
 (h1:∀K:Act→World→Prop,(∀a' w',(Ext w w'∧Ci a' w')→K a' w')→oi.wp P a w K Q)
 (h2:∀K:Act→World→Prop,(∀a' w',(Ext w w'∧Cj a' w')→K a' w')→oj.wp P a w K Q):
 Qy (fun i K a w=>wpOp P ops Q i K a w) i Ci j Cj a w:=by
 constructor
 · simp only[wpOp,hoi,Region.wanted,hgi,if_true]
   exact .inl (h1 _ (fun _ _ h=>h))
 simp only[wpOp,RL,Region.wanted,hgj,if_true];exact .inl (h2 _ (fun _ _ h=>h))
end
end Go.Proofs.YtnlkdheaohocnaaGreatDoor
namespace Go.Proofs.YtnlkdheaohocnaaGreatDoor
open Go Go.RowKit
section
variable {P:Program} {ops:Array Oper} {md:Region.Mode}
variable {Q:Act→World→Prop} {st:Nat→(Act→World→Prop)→Act→World→Prop} {S:World→Prop}
def dO (P:Program) (ops:Array Oper) (Q:Act→World→Prop) (st:Nat→(Act→World→Prop)→Act→World→Prop) (S:World→Prop):List (Nat×Nat)→Act→World→Prop
 |[],a,w=>Q a w
 |(i,k)::rest,a,w=>
  if k=2 then st i (fun a' w'=>S w'∧dO P ops Q st S rest a' w') a w
  else match ops[i]? with
   |none=>False
   |some o=>∃v,YieldsIf P ops S o v a∧dO P ops Q st S rest (a.put o.dst v) w
def xp (md:Region.Mode) (ops:Array Oper):List (Nat×Nat)→Array Bool→Bool
 |[],listed=>Region.ready md ops listed==[]
 |(i,k)::rest,listed=>
  (if k=2 then Region.ready md ops listed==[i] else (Region.ready md ops listed).contains i&&Region.free md ops listed i)&&xp md ops rest (listed.setIfInBounds i true)
theorem Qz {listed:Array Bool} (h:listed.size=ops.size):¬tb ops.size listed:=by
 rintro⟨t,ht,hl⟩;rw[show listed.getD t false=false by simp[Array.getElem?_eq_none (show listed.size≤t by omega)]] at hl
 cases hl
theorem ny (L:cF P ops Q st) (dm:Region.noSelect ops=true):∀(bV:List (Nat×Nat)) (listed:Array Bool) (a:Act) (w:World),
 xp md ops bV listed=true→Closed md ops listed→S w→dO P ops Q st S bV a w→eL md ops Q st ops.size S bV.length listed a w
 |[],listed,a,w,hB,_,_,h=>⟨by simpa [xp] using hB,h⟩
 |(i,k)::rest,listed,a,w,hB,gb,hS,h=>by
  by_cases hk:k=2
  · subst hk
    simp only[xp,if_true,adx] at hB;obtain⟨hr,du⟩:=hB;have hr:Region.ready md ops listed=[i]:=by simpa using hr
    have mV:i∈Region.ready md ops listed:=by rw[hr];simp
    refine⟨fun h0=>(by rw[h0] at hr;cases hr),fun j hj=>?_⟩;rw[hr] at hj;obtain rfl:j=i:=by simpa using hj
    simp only[dO,if_true] at h;exact L.mono (fun a' w' h'=>⟨.inr h'.1,ny L dm rest _ a' w' du (gb.set mV) h'.1 h'.2⟩) h
  simp only[xp,hk,if_false,adx] at hB;obtain⟨⟨hr,hf⟩,du⟩:=hB;have mV:i∈Region.ready md ops listed:=by simpa using hr
  simp only[dO,hk,if_false] at h;split at h
  · exact h.elim
  rename_i o ho;obtain⟨v,hy,hK⟩:=h;have nj:=ny L dm rest (listed.setIfInBounds i true) (a.put o.dst v) w du (gb.set mV) hS hK;exact cV L (S:=S) (S1:=S) ho (Region.noSelect_spec dm) (adg.1 ho).1 (fun l w' hc _ ht=>ht.resolve_left (Qz hc.1)) rest.length listed a w gb (Region.free_spec ho hf) mV hy (.inr hS) nj
end
section
variable {P:Program} {ops:Array Oper} {S:World→Prop}
theorem sP {id:Nat} {Q:Exit→Act→World→Prop} {a:Act} {w:World} {l:List Oper} (S:World→Prop) (bV:List (Nat×Nat)) (hm:P.follows .mixedOrders=true)
 (hB:(Region.noSelect l.toArray&&decide (bV.length=l.length)&&xp .any l.toArray bV (Array.replicate l.length false))=true) (hQ:∀c a d v w,Q (.panic c) (Act.put a d v) w→Q (.panic c) a w) (hS:S w.drew)
 (h:dO P l.toArray (Q .normal) (fun i K a w=>wpOp P l.toArray Q i K a w) S bV a w.drew):(Code.region id l.toArray true).wp P Q a w:=by
 simp only[adx,adB] at hB;refine wp_region_any hm ?_
 have:=ny (aJ Q hQ) hB.1.1 bV (Array.replicate l.length false) a w.drew hB.2 ⟨by simp,fun j oj hj hl=>by
  rcases Nat.lt_or_ge j l.length with h|h
  · simp[h] at hl
  simp[h] at hl⟩ hS h
 rw[hB.1.2] at this;have:=ie _ _ _ _ this;simpa using this
theorem pZ {Q:Act→World→Prop} {st:Nat→(Act→World→Prop)→Act→World→Prop} {i k:Nat} {rest:List (Nat×Nat)} {o:Oper} {a:Act} {w:World} (hk:k≠2) (ho:ops[i]?=some o)
 (h:∀K:Act→Prop,(∀a,dO P ops Q st S rest a w→K a)→if Region.wanted o (yielded ops a.tmps) then Dl P o a K else K (a.put o.dst undef)):
 dO P ops Q st S ((i,k)::rest) a w:=by
 have h:=h _ (fun _ h=>h);simp only[dO,hk,if_false,ho];split at h
 · rename_i hw
   obtain⟨v,hv,hK⟩:=h;refine⟨v,.inl ⟨hw,fun w' _=>?_⟩,hK⟩;have:=hv w';generalize (execOp a.eval o).run P w'=r at*
   cases r with
   |ok n w'=>
    cases n<;>simp only[fJ] at this
    obtain⟨rfl,rfl⟩:=this;rfl
   |halt x w'=>simp only[fJ] at this
 rename_i hw;exact⟨undef,.inr ⟨by simpa using hw,rfl⟩,h⟩
theorem yB {Q:Act→World→Prop} {st:Nat→(Act→World→Prop)→Act→World→Prop} {i k:Nat} {rest:List (Nat×Nat)} {o:Oper} {a:Act} {w:World} (v:Value) (hk:k≠2) (ho:ops[i]?=some o) (hg:Region.wanted o (yielded ops a.tmps)=true)
 (hv:∀W,S W→(execOp a.eval o).run P W=.ok (.value v) W) (h:dO P ops Q st S rest (a.put o.dst v) w):dO P ops Q st S ((i,k)::rest) a w:=by
 simp only[dO,hk,if_false,ho];exact⟨v,.inl ⟨hg,fun w' hw=>hv w' hw⟩,h⟩
theorem iM {Q:Exit→Act→World→Prop} {i:Nat} {rest:List (Nat×Nat)} {o:Oper} {a:Act} {w:World} (ho:ops[i]?=some o) (hg:o.guard=none)
 (h:∀K:Act→World→Prop,(∀a' w',(S w'∧dO P ops (Q .normal) (fun i K a w=>wpOp P ops Q i K a w) S rest a' w')→K a' w')→o.wp P a w K Q):
 dO P ops (Q .normal) (fun i K a w=>wpOp P ops Q i K a w) S ((i,2)::rest) a w:=by
 simp only[dO,if_true,wpOp,ho,Region.wanted,hg];exact .inl (h _ (fun _ _ h=>h))
theorem AS {Q:Act→World→Prop} {st:Nat→(Act→World→Prop)→Act→World→Prop} {a:Act} {w:World} (h:Q a w):dO P ops Q st S [] a w:=h
end
end Go.Proofs.YtnlkdheaohocnaaGreatDoor
namespace Go.Proofs.YtnlkdheaohocnaaGreatDoor
open Go Go.RowKit
section
variable {P:Program} {ops:Array Oper} {md:Region.Mode}
variable {Q:Act→World→Prop} {st:Nat→(Act→World→Prop)→Act→World→Prop}
def zd (md:Region.Mode) (ops:Array Oper) (Q:Act→World→Prop) (st:Nat→(Act→World→Prop)→Act→World→Prop) (listed:Array Bool) (n:Nat) (C:Act→World→Prop):Prop:=
 ∀a w,C a w→eL md ops Q st ops.size (fun _=>True) n listed a w
def ve (st:Nat→(Act→World→Prop)→Act→World→Prop) (i:Nat) (Ci:Act→World→Prop) (j:Nat) (Cj:Act→World→Prop) (a:Act) (w:World):Prop:=st i Ci a w∧st j Cj a w
def MM (md:Region.Mode) (ops:Array Oper):List (Nat×Nat)→Array Bool→Bool
 |[],_=>true
 |(i,k)::rest,listed=>
  (if k=0 then (Region.ready md ops listed).contains i&&Region.free md ops listed i
   else k==2&&(Region.ready md ops listed==[i]))&&MM md ops rest (listed.setIfInBounds i true)
theorem j7 (listed:Array Bool) (h:(Region.ready md ops listed==[])=true):zd md ops Q st listed 0 Q:=fun _ _ hq=>⟨by simpa using h,hq⟩
theorem mg (L:cF P ops Q st) (i j n:Nat) (listed:Array Bool) (hr:(Region.ready md ops listed==[i,j])=true) {Ci Cj:Act→World→Prop}
 (hi:zd md ops Q st (listed.setIfInBounds i true) n Ci) (hj:zd md ops Q st (listed.setIfInBounds j true) n Cj):zd md ops Q st listed (n+1) (ve st i Ci j Cj):=by
 intro a w h;have hr:Region.ready md ops listed=[i,j]:=by simpa using hr
 refine⟨fun h0=>(by rw[hr] at h0;cases h0),fun k hk=>?_⟩;rw[hr] at hk;simp only[List.mem_cons,List.not_mem_nil,or_false] at hk;rcases hk with rfl|rfl
 · exact L.mono (fun a' w' h'=>⟨.inr trivial,hi a' w' h'⟩) h.1
 exact L.mono (fun a' w' h'=>⟨.inr trivial,hj a' w' h'⟩) h.2
theorem vf (L:cF P ops Q st) (dm:Region.noSelect ops=true) (n:Nat) {C:Act→World→Prop}:∀(pre:List (Nat×Nat)) (listed:Array Bool),
 MM md ops pre listed=true→Closed md ops listed→zd md ops Q st (pY pre listed) n C→zd md ops Q st listed (pre.length+n) (aI P ops C st 0 pre)
 |[],listed,_,_,hS=>by
  intro a w h;rw[List.length_nil,Nat.zero_add];exact hS a w h
 |(i,k)::rest,listed,hB,gb,hS=>by
  intro a w h;have hlen:((i,k)::rest).length+n=(rest.length+n)+1:=by simp;omega
  rw[hlen]
  by_cases iR:k=0
  · simp only[MM,iR,if_true,adx] at hB
    obtain⟨⟨hr,hf⟩,du⟩:=hB;have mV:i∈Region.ready md ops listed:=by simpa using hr
    simp only[aI,iR,if_true] at h;split at h
    · exact h.elim
    rename_i o ho;obtain⟨v,hy,hK⟩:=h;have nj:=vf L dm n rest (listed.setIfInBounds i true) du (gb.set mV) hS (a.put o.dst v) w hK;exact cV L (S:=fun _=>True) (S1:=fun _=>True) ho (Region.noSelect_spec dm) (adg.1 ho).1 (fun _ _ _ _ _=>trivial) (rest.length+n) listed a w gb (Region.free_spec ho hf) mV hy (.inr trivial) nj
  simp only[MM,iR,if_false,adx,beq_iff_eq] at hB;obtain⟨⟨rfl,hr⟩,du⟩:=hB;have mV:i∈Region.ready md ops listed:=by rw[hr];simp
  refine⟨fun h0=>(by rw[h0] at hr;cases hr),fun j hj=>?_⟩;rw[hr] at hj;obtain rfl:j=i:=by simpa using hj
  simp only[aI,show¬(2=0) by decide,show¬(2=1) by decide,if_false] at h;exact L.mono (fun a' w' h'=>⟨.inr trivial,vf L dm n rest _ du (gb.set mV) hS a' w' h'.2⟩) h
theorem ez (L:cF P ops Q st) (dm:Region.noSelect ops=true) (n:Nat) {C:Act→World→Prop} (pre:List (Nat×Nat)) (listed:Array Bool) (hB:(MM md ops pre listed&&pX md ops listed)=true)
 (h:zd md ops Q st (pY pre listed) n C):zd md ops Q st listed (pre.length+n) (aI P ops C st 0 pre):=by
 simp only[adx] at hB;exact vf L dm n pre listed hB.1 (mC hB.2) h
end
section
variable {P:Program} {ops:Array Oper} {N:Nat}
theorem s8 {id:Nat} {Q:Exit→Act→World→Prop} {a:Act} {w:World} {l:List Oper} (C:Act→World→Prop) (n:Nat) (hm:P.follows .mixedOrders=true) (hn:(n==l.length)=true) (hQ:∀c a d v w,Q (.panic c) (Act.put a d v) w→Q (.panic c) a w)
 (hS:(∀c a d v w,Q (.panic c) (Act.put a d v) w→Q (.panic c) a w)→zd .any l.toArray (Q .normal) (fun i K a w=>wpOp P l.toArray Q i K a w) (Array.replicate l.length false) n C) (h:C a w.drew):(Code.region id l.toArray true).wp P Q a w:=by
 refine wp_region_any hm ?_;have hn:n=l.length:=by simpa using hn
 subst hn;have:=hS hQ a w.drew h;have:=ie _ _ _ _ this;simpa using this
end
end Go.Proofs.YtnlkdheaohocnaaGreatDoor
