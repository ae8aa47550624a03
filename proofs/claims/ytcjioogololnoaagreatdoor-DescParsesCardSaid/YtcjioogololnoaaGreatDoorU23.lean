/- Of any text: the program's descriptors and the reference's are read and written alike (DescParses). No condition. -/
import Derived.Test.YtcjioogololnoaaGreatDoorU1
import Derived.Test.YtcjioogololnoaaGreatDoorU22
import Derived.Test.YtcjioogololnoaaGreatDoorU9
import Derived.Test.YtcjioogololnoaaGreatDoorU5
import Derived.Test.YtcjioogololnoaaGreatDoorU20
set_option maxRecDepth 1000000
set_option maxHeartbeats 16000000
set_option linter.unusedVariables false
set_option linter.unusedSimpArgs false
namespace Go.Proofs.YtcjioogololnoaaGreatDoor
open Go.RowKit Go.Shelf
theorem ui (A:Option Addr) (c:Nat) (b:List UInt8) (w:World) (hs:Sl w w.heap.size A (B8 b)) (hl:b.length≤2048) (sF:b.length≤c) (hc:c≤maxLen):
 Calls Tryz.prog 132 #[.slice A b.length c] w fun e W'=>e=.returned (.agg (B8 (nw (nw b))).toArray)∧Below w.heap.size w W':=by
 go_enter Tryz.func132,Tryz.ntmps132;go_wp2_with fail;obtain⟨wa,pS⟩:∃wa,wa=w.alloc (.cells (Array.replicate 32 (.int .u8 0)) 56):=⟨_,rfl⟩;have CO:wa.heap.size=w.heap.size+1:=by rw[pS];exact agn _ _
 have vy:wa.heap[w.heap.size]?=some (.cells (Array.replicate 32 (.int .u8 0)) 56 (0,0)):=by rw[pS];exact af4 w _
 have BO:Below w.heap.size w wa:=by rw[pS];exact(af5 _ w).alloc (af2 _) _
 have hsa:=(hs.below BO).mono (show w.heap.size≤wa.heap.size by omega);refine(show wa=_ from pS)▸?_;clear pS;refine(DS A c b wa hsa hl sF hc).mono ?_;rintro e w1 ⟨rfl,fj⟩;obtain⟨h1,pC⟩:=ab (nw b);have j7:h1.length=32:=by rw[pC];exact eU b
 rw[←pC];obtain⟨oc,fD⟩:∃oc,oc=(B8 h1).toArray:=⟨_,rfl⟩;have dO:oc.size=32:=by rw[fD];simp[j7]
 have cG:Hid ((Tryz.prog.info? 56).map (·.size)=some oc.size):=aa (by rw[dO];kernel_rfl);have iy:Hid ((Array.replicate 32 (Value.int .u8 0)).size=oc.size):=aa (by rw[dO];simp);have fQ:Hid (oc.all (·.oneCell')=true):=aa (by rw[fD];exact all_oneCell_toArray (aG _));rw[←fD];have pA:=aa fD;have J5:=aa pC;have gq:=fj.size;have k9:=(fj.block w.heap.size (by omega)).trans vy;have pR:=aa k9;clear fD pC dO k9 vy hsa hs;go_wp2_with (refine af6 rfl 56 (.tmp 3) (.tmp 5) rfl w1.heap.size oc rfl rfl 56 _ (af4 w1 _) cG.out iy.out fQ.out ?_);rw[agi];obtain⟨w2,iN⟩:=ab (w1.alloc (.cells oc 56));rw[←iN];have jZ:Below w1.heap.size w1 w2:=by rw[iN];exact(af5 _ _).alloc (af2 _) _
 have mI:w2.heap.size=w1.heap.size+1:=by rw[iN];exact agn _ _
 have qp:w2.heap[w1.heap.size]?=some (.cells (B8 h1).toArray 56 (0,0)):=by rw[iN,←pA.out];exact af4 w1 _
 have hS2:Sl w2 w2.heap.size (some ⟨w1.heap.size,0,none⟩) (B8 h1):=fun _=>⟨_,0,rfl,by omega,fun j hj=>by
  rw[agb w2 _ _ _ _ (0,0) qp,Nat.zero_add];simp⟩
 have jG:=(jZ.block w.heap.size (by omega)).trans pR.out;have pD:=DS (some ⟨w1.heap.size,0,none⟩) 32 h1 w2 hS2 (by omega) (by omega) (by decide);rw[j7] at pD;refine pD.mono ?_;rintro e w3 ⟨rfl,py⟩;have nU:=(py.block w.heap.size (by omega)).trans jG;have E6:=((BO.trans (fj.mono (by omega))).trans (jZ.mono (by omega))).trans (py.mono (by omega));rw[J5.out];obtain⟨rr,qS⟩:=ab (nw (nw b));have lZ:rr.length=32:=by rw[qS];exact eU _
 rw[←qS];clear cG iy fQ pA iN qp hS2 pD;obtain⟨oc,fD⟩:∃oc,oc=(B8 rr).toArray:=⟨_,rfl⟩;have dO:oc.size=32:=by rw[fD];simp[lZ]
 have cG:Hid ((Tryz.prog.info? 56).map (·.size)=some oc.size):=aa (by rw[dO];kernel_rfl);have iy:Hid ((Array.replicate 32 (Value.int .u8 0)).size=oc.size):=aa (by rw[dO];simp);have fQ:Hid (oc.all (·.oneCell')=true):=aa (by rw[fD];exact all_oneCell_toArray (aG _));have pA:=aa fD;have Xz:=aa qS;have nV:=aa nU;rw[←fD];clear fD qS lZ dO nU jG;go_wp2_with (refine af6 rfl 56 (.tmp 2) (.tmp 7) rfl w.heap.size oc rfl rfl 56 _ nV.out cG.out iy.out fQ.out ?_);refine agf (v:=.agg oc) ?_ rfl ⟨by rw[pA.out,Xz.out],ah E6 (af2 _) _⟩;exact ags rfl _ _ w.heap.size 56 oc (0,0) (.array 32 5) rfl (agd _ _ _ _ _ _ nV.out) (by kernel_rfl) rfl cG.out
def kV (X:List UInt8) (d q:Nat):List UInt8:=(nA 58 256 (X.take q) d).1++X.drop q
theorem ug (X:List UInt8) (d q:Nat) (h:q≤X.length):(kV X d q).length=X.length:=by rw[kV,agc,kY];simp;omega
theorem Lg (X:List UInt8) (d:Nat):kV X d 0=X:=by simp[kV,nA]
theorem PE (X:List UInt8) (d:Nat):kV X d X.length=(nA 58 256 X d).1:=by simp[kV]
def qG (X:List UInt8) (d q:Nat):Nat:=(nA 58 256 (X.take q) d).2
theorem mu (X:List UInt8) (q:Nat) (h:q<X.length):X.take (q+1)=X.take q++[X[q]]:=by rw[agh h]
theorem Lh (X:List UInt8) (d q:Nat) (h:q<X.length):qG X d (q+1)=(qG X d q+X[q].toNat*58)/256:=by rw[qG,mu X q h,nL];rfl
theorem TQ (X:List UInt8) (d q:Nat) (h:q<X.length):(kV X d q)[q]?=some X[q]:=by
 rw[kV,agv (by rw[kY];simp;omega),kY];simp[show min q X.length=q by omega,h]
theorem PF (X:List UInt8) (d q:Nat) (h:q<X.length):(kV X d q).set q (UInt8.ofNat ((qG X d q+X[q].toNat*58)%256))=kV X d (q+1):=by
 have hl:((nA 58 256 (X.take q) d).1).length=q:=by rw[kY];simp;omega
 rw[kV,List.set_append_right _ _ (by omega),hl,Nat.sub_self,kV,mu X q h,nL];rw[show X.drop q=X[q]::X.drop (q+1) from List.drop_eq_getElem_cons h,List.set_cons_zero];simp[qG]
theorem Za (L:List UInt8) (q:Nat) (h:q<L.length):L.reverse[L.length-1-q]?=L[q]?:=by
 rw[List.getElem?_reverse (by omega)];congr 1;omega
theorem TR (L:List UInt8) (q:Nat) (a:UInt8) (h:q<L.length):L.reverse.set (L.length-1-q) a=(L.set q a).reverse:=by
 apply List.ext_getElem (by simp);intro i h1 h2;simp only[List.length_set,List.length_reverse] at h1 h2;rw[List.getElem_set,List.getElem_reverse,List.getElem_reverse,List.getElem_set];simp only[List.length_set]
 by_cases e:L.length-1-q=i
 · rw[if_pos e,if_pos (by omega)]
 rw[if_neg e,if_neg (by omega)]
theorem PG (c:Nat) (hc:c<256):aU 256 c c=if c=0 then [] else [UInt8.ofNat c]:=by
 by_cases h:c=0
 · subst h;rfl
 rw[if_neg h,dx 256 c (by omega) (by omega),Nat.div_eq_of_lt hc,agA hc];rfl
theorem PH (X:List UInt8) (d:Nat) (hd:d<58):(dj 58 256 X d).reverse=(if qG X d X.length=0 then [] else [UInt8.ofNat (qG X d X.length)])++(kV X d X.length).reverse:=by
 have hc:qG X d X.length=(nA 58 256 X d).2:=by simp[qG]
 have h1:=l5 58 256 (by omega) (by omega) X d (fun x _=>x.toNat_lt) hd;rw[dj,PE,hc,PG _ (by omega),List.reverse_append];split<;>simp
theorem TS (X:List UInt8) (d q:Nat) (hd:d<58):qG X d q<58:=l5 58 256 (by omega) (by omega) _ _ (fun x _=>x.toNat_lt) hd
def tu (S:List UInt8):Nat:=S.length-(S.dropWhile (·==49)).length
theorem TT (S:List UInt8):tu S≤S.length:=by unfold tu;omega
theorem TU (S:List UInt8) (j:Nat) (h:j<tu S):S[j]?=some 49:=by
 have hs:S=List.replicate (tu S) 49++S.dropWhile (·==49):=iq S;have h2:S[j]?=(List.replicate (tu S) 49++S.dropWhile (·==49))[j]?:=congrArg (fun l:List UInt8=>l[j]?) hs;rw[h2,agK (by simpa using h)];exact List.getElem?_replicate_of_lt h
theorem PI (S:List UInt8) (y:UInt8) (hy:S[tu S]?=some y):y≠49:=by
 intro e;have hs:S=List.replicate (tu S) 49++S.dropWhile (·==49):=iq S;have h2:S[tu S]?=(List.replicate (tu S) 49++S.dropWhile (·==49))[tu S]?:=congrArg (fun l:List UInt8=>l[tu S]?) hs;rw[h2,agv (by simp)] at hy;simp only[List.length_replicate,Nat.sub_self] at hy;have dt:S.dropWhile (·==49)≠[]:=fun e=>by rw[e] at hy;simp at hy
 have h3:=List.head_dropWhile_not (·==(49:UInt8)) (l:=S) dt;rw[←List.head?_eq_getElem?,List.head?_eq_some_head dt] at hy;injection hy with hy;rw[hy,e] at h3;simp at h3
theorem DO (s:ByteArray) (w:World) (hsz:s.size≤4096):
 Calls Tryz.prog 158 #[.string s] w fun e W'=>∃v,e=.returned (.tuple #[v,.int .i64 ((cu s.data.toList).1:Int)])∧Ow W' w.heap.size 5 v (B8 (cu s.data.toList).2)∧Below w.heap.size w W':=by
 have hS:s.data.toList.length=s.size:=by simp
 by_cases hbig:250<s.size
 · have hf:cu s.data.toList=(2,[]):=by rw[cu,if_pos (by omega)]
   rw[hf];go_enter Tryz.func158,Tryz.ntmps158;go_wp2_with fail;go_ret2;exact⟨_,rfl,Ow.nil_ _ _ _ _,af5 _ _⟩
 obtain⟨S,Ax⟩:=ab s.data.toList;rw[←Ax] at hS⊢;obtain⟨F,hF⟩:=ab (cu S);rw[←hF];have Ro:=aa Ax;have HS:=aa hS;have HF:=aa hF;clear Ax hS hF;go_enter Tryz.func158,Tryz.ntmps158;go_wp2_with fail;go_loopw [4,5] (fun v i wr=>∃k:Nat,k≤s.size∧i=.int .i64 k∧Ow wr w.heap.size 5 v (B8 (dc 58 256 ((S.take k).map dR)).reverse)∧Hid (∀c∈S.take k,c∈aB)∧Below w.heap.size w wr) (fun _ i _=>s.size-(intOf i).toNat)
 case atStart=>exact⟨0,agu _,rfl,Ow.nil_ _ _ _ _,aa (by simp),af5 _ _⟩
 case round=>
  obtain⟨k,hk,rfl,ho,fN,hb⟩:=hrel;obtain⟨X,hX⟩:=ab (dc 58 256 ((S.take k).map dR));rw[←hX] at ho;obtain⟨m,hm⟩:=ab X.length
  have Cm:m≤250:=by
   rw[hm,hX];refine agx (mN 58 256 (by omega) (by omega) (by omega) (by omega) _ ?_) (by simp;omega);intro d hd;obtain⟨c,hc,rfl⟩:=List.mem_map.1 hd;exact nX c (fN.out c hc)
  obtain⟨An,cn,rfl,om,afl⟩:=aH ho;rw[List.length_reverse,←hm] at ho om⊢;have HX:=aa hX;have Hm:=aa hm;clear hX hm
  by_cases aL:k<s.size
  · obtain⟨y,hy⟩:∃y,y=s[k]:=⟨_,rfl⟩
    have NO:S[k]?=some y:=by rw[Ro.out,hy];simp[aL];rfl
    have tH:=yH ⟨aB.toArray⟩ s[k].toNat s[k].toNat_lt;rw[show UInt8.ofNat s[k].toNat=y from by rw[hy];simp,show (⟨aB.toArray⟩:ByteArray).data.toList=aB from rfl] at tH;have Vk:=aa NO;have zd:=aa tH;clear NO tH
    by_cases pH:y∈aB
    · obtain⟨d,hd⟩:=ab (aB.idxOf y)
      have SH:d<58:=by rw[hd];exact List.idxOf_lt_length_iff.2 pH
      have iO:cC aB y=(d:Int):=by rw[cC,if_pos pH,hd]
      have Hd:=aa hd;have rl:=aa iO;have Fz:=aa pH;clear hd iO pH;go_wp2_with (go_at_call 42;refine(zd.out _ (by decide)).mono ?_;rintro e w' ⟨rfl,bD⟩;rw[←bD];clear bD;rw[rl.out]);have Gc:Ow wr w.heap.size 5 (.slice An m cn) (B8 (kV X d 0).reverse):=by rw[Lg];exact ho
      clear ho;go_loopw [7,8] (fun c i wr=>∃q:Nat,q≤m∧i=.int .i64 ((m:Int)-1-q)∧c=.int .i64 (qG X d q:Int)∧Ow wr w.heap.size 5 (.slice An m cn) (B8 (kV X d q).reverse)∧Below w.heap.size w wr) (fun _ i _=>(intOf i+1).toNat)
      case atStart=>exact⟨0,agu _,by simp,rfl,Gc,hb⟩
      case round=>
       clear Gc hb;obtain⟨q,hq,rfl,rfl,ho,hb⟩:=hrel
       by_cases hqm:q<m
       · obtain⟨p,hp⟩:∃p,p=m-1-q:=⟨_,rfl⟩
         have ep:(m:Int)-1-(q:Int)=(p:Int):=by omega
         have BV:p<m:=by omega
         have hqX:q<X.length:=by have:=Hm.out;omega
         have lZ:(kV X d q).length=m:=by rw[ug X d q (by omega),←Hm.out]
         obtain⟨x,hx⟩:∃x,x=X[q]:=⟨_,rfl⟩;obtain⟨c,hc⟩:=ab (qG X d q)
         have adH:c<58:=by
          rw[hc,qG];refine l5 58 256 (by omega) (by omega) _ _ (fun x _=>x.toNat_lt) SH
         have aF:(kV X d q).reverse[p]?=some x:=by
          rw[hp,←lZ,Za _ _ (by omega),TQ X d q hqX,hx]
         obtain⟨g,rfl,hg,abG,oG,lR⟩:=ho.at_ (j:=p) (by simp[lZ];exact BV)
         have aD:wr.cell? ⟨g,p,none⟩=some (.int .u8 (x.toNat:Int)):=by
          rw[oG];have h2:(B8 (kV X d q).reverse)[p]?=some (.int .u8 (x.toNat:Int)):=by rw[B8,List.getElem?_map,aF];rfl
          rw[age (by simp[lZ];exact BV)] at h2;exact h2
         have cW:=ho.store p (by omega) (Value.int IntKind.u8 (((x.toNat:Int)*58+(c:Int))%256))
         have kn:(B8 (kV X d q).reverse).set p (Value.int IntKind.u8 (((x.toNat:Int)*58+(c:Int))%256))=B8 (kV X d (q+1)).reverse:=by
          rw[←PF X d q hqX,←TR _ _ _ (by omega),lZ,←hp,B8,B8,List.map_set,←hc,←hx];congr 2;rw[agp];omega
         rw[kn] at cW;have abH:qG X d (q+1)=(c+x.toNat*58)/256:=by rw[Lh X d q hqX,←hc,←hx]
         have hx8:=x.toNat_lt;have eg:=aa cW;have adI:=aa abH;rw[←hc];clear kn cW abH aF hc hx hp abG oG lZ;go_wp2_with fail;refine⟨⟨q+1,by omega,by congr 1;omega,?_,eg.out,hb.setCell (p:=⟨g,p,none⟩) hg _⟩,by simp only[intOf];omega⟩;rw[adI.out];congr 1;omega
       have VN:q=X.length:=by have:=Hm.out;omega
       have afm:(m:Int)-1-(q:Int)=-1:=by omega
       obtain⟨c,hc⟩:=ab (qG X d q);have adH:c<58:=by rw[hc];exact TS X d q SH
       have lu:=PH X d SH;rw[←VN,←hc] at lu;have hdy:(dR y).toNat=d:=by rw[dR,←Hd.out,agp,agA (by omega)]
       have jO:S.take k++[y]=S.take (k+1):=by rw[List.take_add_one,Vk.out];rfl
       have eJ:dc 58 256 ((S.take (k+1)).map dR)=dj 58 256 X d:=by
        rw[←jO,List.map_append,List.map_singleton,kh,←HX.out,hdy]
       rw[←eJ] at lu
       have VY:∀c∈S.take (k+1),c∈aB:=by
        rw[←jO];intro c hc;simp only[List.mem_append,agE] at hc;rcases hc with hc|rfl
        · exact fN.out c hc
        exact Fz.out
       have lZ:(kV X d q).length=m:=by rw[ug X d q (by omega),←Hm.out]
       rw[←hc];have Fl:=aa lu;have VZ:=aa VY;have PJ:=aa lZ;clear lu hdy jO eJ VY VN hc lZ
       by_cases iu:c=0
       · subst iu
         go_wp2_with fail;refine⟨⟨k+1,by omega,rfl,?_,VZ,hb⟩,by simp[intOf];omega⟩;rw[Fl.out];exact ho
       have Zb:=(ho.alloc (.cells #[.int .u8 (c:Int)] 5)).sl
       have Gd:Ow (wr.alloc (.cells #[.int .u8 (c:Int)] 5)) w.heap.size 5 (.slice (some ⟨wr.heap.size,0,none⟩) 1 1) [.int .u8 (c:Int)]:=Ow.of_row (w:=wr) #[.int .u8 (c:Int)] 5 w.heap.size hb.size (cap:=1) rfl (by decide) 1 (af2 _)
       go_wp2_with (at_builtin;go_loud (refine aq (m:=m) (c:=cn) (base:=w.heap.size) (xs:=[.int .u8 (c:Int)]) (v:=.slice (some ⟨wr.heap.size,0,none⟩) 1 1) (A:=An) (B:=(wr.alloc (.cells #[.int .u8 (c:Int)] 5)).heap.size) (news:=B8 (kV X d q).reverse) jf rfl (.tmp 54) (.tmp 55) rfl rfl Gd rfl Zb (by rw[B8_length,List.length_reverse];exact PJ.out) (aG _) (by simp[maxLen];omega) (by simp;omega) (by have:=hb.size;simp;omega) ?_);intro v3 w3 cZ fl j0)
       refine⟨⟨k+1,by omega,rfl,?_,VZ,?_⟩,by simp[intOf];omega⟩
       · rw[Fl.out,if_neg iu,bu,MZ,agp,agA (by omega)];exact cZ
       exact(hb.alloc hb.size _).grown fl (by have:=hb.size;simp;omega) (fun r hr=>(Gd.row r hr).1)
    have iO:cC aB y=-1:=by rw[cC,if_neg pH]
    have rl:=aa iO;have Fz:=aa pH;clear iO pH;go_wp2_with (go_at_call 42;refine(zd.out _ (by decide)).mono ?_;rintro e w' ⟨rfl,bD⟩;rw[←bD];clear bD;rw[rl.out]);go_ret2
    have hF:F=(3,[]):=by
     rw[HF.out,cu,if_neg (by have:=HS.out;omega),if_neg];exact fun h=>Fz.out (h y (List.mem_of_getElem? Vk.out))
    rw[hF];exact⟨_,rfl,Ow.nil_ _ _ _ _,hb⟩
  obtain rfl:k=s.size:=by omega
  obtain⟨z,hz⟩:=ab (tu S);have hzl:z≤s.size:=by rw[hz,←HS.out];exact TT S
  have sN:F=(0,List.replicate z 0++X.reverse):=by
   have dV:∀c∈S,c∈aB:=by have:=fN.out;rwa [af7 (by have:=HS.out;omega)] at this
   rw[HF.out,cu,if_neg (by have:=HS.out;omega),if_pos dV,HX.out,af7 (by have:=HS.out;omega),hz];rfl
  have vC:=aa sN;have Hz:=aa hz;clear sN hz;go_wp2_with fail;go_loopw [4,10] (fun v i wr=>∃j:Nat,j≤z∧i=.int .i64 j∧Ow wr w.heap.size 5 v (B8 (List.replicate j 0++X.reverse))∧Below w.heap.size w wr) (fun _ i _=>z-(intOf i).toNat)
  case atStart=>exact⟨0,agu _,rfl,by simpa using ho,hb⟩
  case round=>
   clear ho hb;obtain⟨j,hj,rfl,ho,hb⟩:=hrel;obtain⟨Y,hY⟩:∃Y,Y=List.replicate j 0++X.reverse:=⟨_,rfl⟩;rw[←hY] at ho;obtain⟨Ay,cy,rfl,hcy,acX⟩:=aH ho;obtain⟨M,hM⟩:=ab Y.length;have SF:M≤600:=by rw[hM,hY,agc,List.length_replicate,List.length_reverse,←Hm.out];omega
   rw[←hM] at ho hcy⊢;have HY:=aa hY;have HM:=aa hM;clear hY hM
   by_cases hjz:j<z
   · have XD:j<s.size:=by omega
     have WM:(s[j].toNat:Int)=49:=by
      have h1:=TU S j (by rw[←Hz.out];exact hjz);rw[Ro.out] at h1;have h2:s.data.toList[j]?=some s[j]:=by simp[XD];rfl
      rw[h2] at h1;injection h1 with h1;rw[h1];rfl
     have Zb:=(ho.alloc (.cells #[.int .u8 (0:Int)] 5)).sl
     have Gd:Ow (wr.alloc (.cells #[.int .u8 (0:Int)] 5)) w.heap.size 5 (.slice (some ⟨wr.heap.size,0,none⟩) 1 1) [.int .u8 (0:Int)]:=Ow.of_row (w:=wr) #[.int .u8 (0:Int)] 5 w.heap.size hb.size (cap:=1) rfl (by decide) 1 (af2 _)
     go_wp2_with (at_builtin;go_loud (refine aq (m:=M) (c:=cy) (base:=w.heap.size) (xs:=[.int .u8 (0:Int)]) (v:=.slice (some ⟨wr.heap.size,0,none⟩) 1 1) (A:=Ay) (B:=(wr.alloc (.cells #[.int .u8 (0:Int)] 5)).heap.size) (news:=B8 Y) jf rfl (.tmp 69) (.tmp 70) rfl rfl Gd rfl Zb (by rw[B8_length];exact HM.out.symm) (aG _) (by simp[maxLen];omega) (by simp;omega) (by have:=hb.size;simp;omega) ?_);intro v3 w3 cZ fl j0)
     refine⟨⟨j+1,by omega,rfl,?_,(hb.alloc hb.size _).grown fl (by have:=hb.size;simp;omega) (fun r hr=>(Gd.row r hr).1)⟩,by simp[intOf];omega⟩;rw[List.replicate_succ,agw,←HY.out];exact cZ
   have Bp:j=z:=by omega
   by_cases XD:j<s.size
   · have WM:¬(s[j].toNat:Int)=49:=by
      intro e;have h2:S[tu S]?=some s[j]:=by rw[←Hz.out,←Bp,Ro.out];simp[XD];rfl
      refine PI S _ h2 ?_;apply UInt8.toNat_inj.1;show s[j].toNat=49;omega
     have Zc:=aa Bp;clear Bp;go_wp2_with fail;go_ret2;refine⟨.slice Ay M cy,?_,?_,hb⟩
     · rw[vC.out];rfl
     rw[vC.out,←Zc.out,←HY.out];exact ho
   have Zc:=aa Bp;clear Bp;go_wp2_with fail;go_ret2;refine⟨.slice Ay M cy,?_,?_,hb⟩
   · rw[vC.out];rfl
   rw[vC.out,←Zc.out,←HY.out];exact ho
def gU:Nat→List UInt8→List UInt8×Nat
 |r,[]=>([],r)
 |r,d::l=>(UInt8.ofNat ((r*256+d.toNat)/58)::(gU ((r*256+d.toNat)%58) l).1,(gU ((r*256+d.toNat)%58) l).2)
theorem oH:∀(a b:List UInt8) (r:Nat),gU r (a++b)=((gU r a).1++(gU (gU r a).2 b).1,(gU (gU r a).2 b).2)
 |[],b,r=>rfl
 |x::a,b,r=>by simp only[agw,gU,oH a b]
theorem iL:∀(l:List UInt8) (r:Nat),(gU r l).1.length=l.length
 |[],_=>rfl
 |x::l,r=>by simp[gU,iL l]
theorem tw (l:List UInt8) (d:UInt8) (r:Nat):gU r (l++[d])=((gU r l).1++[UInt8.ofNat (((gU r l).2*256+d.toNat)/58)],((gU r l).2*256+d.toNat)%58):=by rw[oH];rfl
theorem xr (l:List UInt8):(gU 0 l).2=bp 256 l%58∧bp 256 (gU 0 l).1=bp 256 l/58:=by
 induction hn:l.length generalizing l with
 |zero=>rw[List.length_eq_zero_iff.1 hn];exact⟨rfl,rfl⟩
 |succ n ih=>
  rcases List.eq_nil_or_concat l with rfl|⟨l',d,rfl⟩
  · simp at hn
  rw[List.concat_eq_append] at hn⊢;obtain⟨h1,h2⟩:=ih l' (by simpa using hn);obtain⟨V,hV⟩:=ab (bp 256 l');rw[←hV] at h1 h2;have hd:=d.toNat_lt;rw[tw,ft,←hV];constructor
  · show ((gU 0 l').2*256+d.toNat)%58=_
    rw[h1];omega
  show bp 256 ((gU 0 l').1++[UInt8.ofNat (((gU 0 l').2*256+d.toNat)/58)])=_;rw[ft,h1,h2,agp,agA (by omega)];omega
theorem PK (l:List UInt8):(gU 0 l).2<58:=by rw[(xr l).1];exact Nat.mod_lt _ (by omega)
theorem qH:∀(l:List UInt8),(∀x∈l,x=0)→gU 0 l=(l,0)
 |[],_=>rfl
 |x::l,h=>by
  have hx:x=0:=h x (by simp);subst hx;have:=qH l (fun y hy=>h y (by simp[hy]));simp[gU,this]
theorem Bq (l:List UInt8) (h:∀x∈l,x=0):bp 256 l=0:=by
 have h2:l=List.replicate l.length 0:=List.eq_replicate_iff.2 ⟨rfl,h⟩;rw[h2];generalize l.length=n
 induction n with
 |zero=>rfl
 |succ n ih=>rw[List.replicate_succ',ft,ih];rfl
theorem Ge (l:List UInt8) (x:UInt8) (hx:x∈l) (h0:x≠0):0<bp 256 l:=by
 induction hn:l.length generalizing l with
 |zero=>rw[List.length_eq_zero_iff.1 hn] at hx;simp at hx
 |succ n ih=>
  rcases List.eq_nil_or_concat l with rfl|⟨l',d,rfl⟩
  · simp at hn
  rw[List.concat_eq_append] at hn hx⊢;rw[ft];simp only[List.mem_append,agE] at hx;rcases hx with hx|rfl
  · have:=ih l' hx (by simpa using hn);omega
  have:x.toNat≠0:=fun e=>h0 (UInt8.toNat_inj.1 (by simpa using e))
  omega
def oI (L:List UInt8) (i:Nat):List UInt8:=(gU 0 (L.take i)).1++L.drop i
def r8 (L:List UInt8) (i:Nat):Nat:=(gU 0 (L.take i)).2
theorem DP (L:List UInt8) (i:Nat) (h:i≤L.length):(oI L i).length=L.length:=by rw[oI,agc,iL];simp;omega
theorem TV (L:List UInt8) (i:Nat) (h:i<L.length):(oI L i)[i]?=some L[i]:=by
 rw[oI,agv (by rw[iL];simp;omega),iL];simp[show min i L.length=i by omega,h]
theorem PL (L:List UInt8) (i:Nat) (h:i<L.length):(oI L i).set i (UInt8.ofNat ((r8 L i*256+L[i].toNat)/58))=oI L (i+1):=by
 have hl:((gU 0 (L.take i)).1).length=i:=by rw[iL];simp;omega
 rw[oI,List.set_append_right _ _ (by omega),hl,Nat.sub_self,oI,mu L i h,tw];rw[show L.drop i=L[i]::L.drop (i+1) from List.drop_eq_getElem_cons h,List.set_cons_zero];simp[r8]
theorem Li (L:List UInt8) (i:Nat) (h:i<L.length):r8 L (i+1)=(r8 L i*256+L[i].toNat)%58:=by rw[r8,mu L i h,tw];rfl
theorem xt (L:List UInt8) (k:Nat) (h:∀x∈L.take k,x=0):oI L k=L∧r8 L k=0:=by
 rw[oI,r8,qH _ h];exact⟨agH k L,rfl⟩
theorem DQ (L:List UInt8):oI L L.length=(gU 0 L).1∧r8 L L.length=(gU 0 L).2:=by simp[oI,r8]
theorem Gf (L:List UInt8) (k:Nat) (hk:k≤L.length) (h:∀x∈L.take k,x=0):∀x∈(gU 0 L).1.take k,x=0:=by
 have h1:gU 0 L=gU 0 (L.take k++L.drop k):=by rw[agH]
 rw[h1,oH,qH _ h];simp only;rw[List.take_append_of_le_length (by simp;omega),af7 (by simp;omega)];exact h
theorem Gg (V:Nat) (h:0<V):aU 58 V V=UInt8.ofNat (V%58)::aU 58 (V/58) (V/58):=dx 58 V (by omega) h
theorem yv (r:Nat) (hr:r<58) (h:r<(⟨aB.toArray⟩:ByteArray).size):(⟨aB.toArray⟩:ByteArray)[r]=dK (UInt8.ofNat r):=by
 have e:(UInt8.ofNat r).toNat=r:=by rw[agp,agA (by omega)]
 have h':r<aB.length:=h;show aB.toArray[r]'(by simpa using h')=_
 simp[dK,e,h']
theorem V1:∀(b:List UInt8) (j:Nat),j<lz b→b[j]?=some 0
 |[],j,h=>by simp[lz] at h
 |x::b,j,h=>by
  unfold lz at h;split at h
  · rename_i hx
    cases j with
    |zero=>simp[hx]
    |succ j=>simpa using V1 b j (by omega)
  omega
theorem PM:∀(b:List UInt8) (y:UInt8),b[lz b]?=some y→y≠0
 |[],y,h=>by simp at h
 |x::b,y,h=>by
  unfold lz at h;split at h
  · exact PM b y (by simpa using h)
  rename_i hx;simp at h;rw[←h];exact hx
def Br (g N:Nat) (w:World):Nat:=match w.heap[g]? with
 |some (.cells cur _ _)=>(cur.toList.take N).foldl (fun v x=>v*256+(intOf x).toNat) 0
 |_=>0
theorem zx {w:World} {base E g N c:Nat} {L:List UInt8} (h:Ow w base E (.slice (some ⟨g,0,none⟩) N c) (B8 L)) (hN:0<N):Br g N w=bp 256 L:=by
 obtain⟨A',c',e,h1,h2,h3⟩:=h;injection e with e1 e2 e3;obtain⟨g',cur,e4,_,hh,_,ht⟩:=h3 (by omega);rw[←e1] at e4;injection e4 with e4;injection e4 with e4;subst e4;rw[Br,hh];simp only;rw[e2,ht,B8,List.foldl_map];rfl
theorem DR (A:Option Addr) (c:Nat) (b:List UInt8) (w:World) (hs:Sl w w.heap.size A (B8 b)) (hl:b.length≤300):
 Calls Tryz.prog 133 #[.slice A b.length c] w fun e W'=>e=.returned (.string ⟨(fK b).toArray⟩)∧Below w.heap.size w W':=by
 by_cases bL:b=[]
 · subst bL
   simp only[List.length_nil];clear hl hs;have e58:fK []=[]:=rfl;rw[e58]
   cases A with
   |none=>
    go_enter Tryz.func133,Tryz.ntmps133;go_wp2_with fail;obtain⟨wE,fR⟩:=ab (w.alloc (.cells #[] 5))
    have Yt:Below w.heap.size w wE:=by rw[fR];exact(af5 _ _).alloc (af2 _) _
    rw[←fR];clear fR;go_loopw [4,5] (fun sv i wr=>wr=wE∧sv=.string ⟨#[]⟩∧i=.int .i64 0) (fun _ _ _=>0)
    case atStart=>exact⟨rfl,rfl,rfl⟩
    case round=>
     obtain⟨hrel,rfl,rfl⟩:=hrel;obtain⟨wF,hwF⟩:=ab wr;subst hwF;have hBF:Below w.heap.size w wF:=by rw[hrel];exact Yt
     clear hrel;go_wp2_with fail;go_loopw [4,9] (fun sv i wr=>wr=wF∧sv=.string ⟨#[]⟩∧i=.int .i64 0) (fun _ _ _=>0)
     case atStart=>exact⟨rfl,rfl,rfl⟩
     case round=>
      obtain⟨hrel,rfl,rfl⟩:=hrel;have hBr:Below w.heap.size w wr:=by rw[hrel];exact hBF
      clear hrel;go_wp2_with fail;go_ret;exact⟨rfl,hBr⟩
   |some ad=>
    go_enter Tryz.func133,Tryz.ntmps133;go_wp2_with (at_builtin;refine aq (m:=0) (c:=c) (base:=w.heap.size) (xs:=[]) (v:=.slice (some ⟨w.heap.size,0,none⟩) 0 0) (A:=some ad) (B:=w.heap.size) (news:=[]) jf rfl (.tmp 10) (.tmp 11) rfl rfl (Ow.nil_ _ _ _ _) rfl Sl.nil rfl (by simp) (by simp) (by simp) (by simp) ?_;intro v1 w1 jc jd jQ);obtain⟨A1,c1,rfl,dW,Ae⟩:=aH (T:=[]) jc;have Yt:Below w.heap.size w w1:=((af5 _ w).alloc (af2 _) _).grown jd (by simp) (by simp[az]);obtain⟨wE,fR⟩:=ab w1;subst fR;clear jd jQ jc;go_loopw [4,5] (fun sv i wr=>wr=wE∧sv=.string ⟨#[]⟩∧i=.int .i64 0) (fun _ _ _=>0)
    case atStart=>exact⟨rfl,rfl,rfl⟩
    case round=>
     obtain⟨hrel,rfl,rfl⟩:=hrel;obtain⟨wF,hwF⟩:=ab wr;subst hwF;have hBF:Below w.heap.size w wF:=by rw[hrel];exact Yt
     clear hrel;go_wp2_with fail;go_loopw [4,9] (fun sv i wr=>wr=wF∧sv=.string ⟨#[]⟩∧i=.int .i64 0) (fun _ _ _=>0)
     case atStart=>exact⟨rfl,rfl,rfl⟩
     case round=>
      obtain⟨hrel,rfl,rfl⟩:=hrel;have hBr:Below w.heap.size w wr:=by rw[hrel];exact hBF
      clear hrel;go_wp2_with fail;go_ret;exact⟨rfl,hBr⟩
 have mE:0<b.length:=List.length_pos_iff.2 bL;obtain⟨N,hN⟩:=ab b.length;rw[←hN];have Vg:N≤300:=by omega
 have IC:0<N:=by omega
 have HN:=aa hN;clear bL mE hN;go_enter Tryz.func133,Tryz.ntmps133;go_wp2_with (at_builtin;go_loud (refine aq (m:=N) (c:=c) (base:=w.heap.size) (xs:=[]) (v:=.slice (some ⟨w.heap.size,0,none⟩) 0 0) (A:=A) (B:=w.heap.size) (news:=B8 b) jf rfl (.tmp 10) (.tmp 11) rfl rfl (Ow.nil_ _ _ _ _) rfl (hs.alloc (af2 _) _) (by rw[B8_length];exact HN.out.symm) (aG _) (by simp[maxLen];omega) (by simp;omega) (by simp) ?_);intro v1 w1 jc jd jQ;have aZ:=((af5 _ w).alloc (af2 _) (.cells #[] 5)).grown jd (by simp) (by simp[az]);rw[agJ] at jc;obtain⟨A1,c1,rfl,dW,Ae⟩:=aH jc;rw[←HN.out] at jc dW⊢;clear jd jQ)
 obtain⟨g,rfl,hgb,_,_,_⟩:=jc.at_ (j:=0) (by rw[B8_length,←HN.out];exact IC);obtain⟨V0,hV0⟩:=ab (bp 256 b)
 have hPl:(aU 58 V0 V0).length≤5100:=by
  have h:=oT 256 58 (by omega) (by omega) b;rw[eP 256 58 (by omega) (by omega) (by omega),←hV0] at h;omega
 have HPl:=aa hPl;clear hPl;have HV0:=aa hV0
 go_loopw [4,5] (fun sv bv wr=>∃(T L E:List UInt8) (k:Nat),sv=.string ⟨T.toArray⟩∧bv=.int .i64 k∧k≤N∧Ow wr w.heap.size 5 (.slice (some ⟨g,0,none⟩) N c1) (B8 L)∧Below w.heap.size w wr∧
  Hid (L.length=N∧(∀x∈L.take k,x=0)∧aU 58 V0 V0=E++aU 58 (bp 256 L) (bp 256 L)∧T=E.reverse.map dK)) (fun _ bv wr=>(N-(intOf bv).toNat)+Br g N wr)
 case atStart=>exact⟨[],b,[],0,rfl,rfl,agu _,jc,aZ,aa ⟨HN.out.symm,by simp,by rw[hV0];rfl,rfl⟩⟩
 case round=>
  clear jc aZ hV0;obtain⟨T,L,E,k,rfl,rfl,hk,ho,hb,HI⟩:=hrel
  have AB:T.length≤5100:=by
   have h:=congrArg List.length HI.out.2.2.1;rw[agc] at h;rw[HI.out.2.2.2,List.length_map,List.length_reverse];have:=HPl.out;omega
  by_cases aL:k<N
  · have hkL:k<L.length:=by rw[HI.out.1];exact aL
    obtain⟨x,hx⟩:∃x,x=L[k]:=⟨_,rfl⟩;obtain⟨_,e0,_,_,oG,_⟩:=ho.at_ (j:=k) (by simpa using hkL);injection e0 with e0;injection e0 with e0;subst e0;have aD:wr.cell? ⟨g,k,none⟩=some (.int .u8 (x.toNat:Int)):=by rw[oG,dd,hx]
    have Hx:=aa hx;clear oG hx
    by_cases tJ:x=0
    · have ex:(x.toNat:Int)=0:=by rw[tJ];rfl
      have Hx0:=aa tJ;clear tJ;go_wp2_with fail;obtain⟨hLN,hLz,hLE,hLT⟩:=HI.out;refine⟨⟨T,L,E,k+1,rfl,rfl,by omega,ho,hb,aa ⟨hLN,?_,hLE,hLT⟩⟩,by simp[intOf];omega⟩;rw[mu L k hkL];intro x hx;simp only[List.mem_append,agE] at hx;rcases hx with hx|rfl
      · exact hLz x hx
      rw[←Hx.out];exact Hx0.out
    have ex:¬(x.toNat:Int)=0:=fun e=>tJ (UInt8.toNat_inj.1 (by simpa using e))
    have Hx0:=aa tJ;clear tJ;go_wp2_with fail;obtain⟨wS,VC⟩:=ab wr;subst VC;have hrv:Br g N wS=bp 256 L:=zx ho IC;have Gc:Ow wS w.heap.size 5 (.slice (some ⟨g,0,none⟩) N c1) (B8 (oI L k)):=by rw[(xt L k HI.out.2.1).1];exact ho
    have WN:r8 L k=0:=(xt L k HI.out.2.1).2;have Hrv:=aa hrv;clear ho hrv;go_loopw [6,7] (fun r i wr=>∃q:Nat,k≤q∧q≤N∧i=.int .i64 q∧r=.int .i64 (r8 L q:Int)∧Ow wr w.heap.size 5 (.slice (some ⟨g,0,none⟩) N c1) (B8 (oI L q))∧Below w.heap.size w wr) (fun _ i _=>N-(intOf i).toNat)
    case atStart=>exact⟨k,af2 _,by omega,rfl,by rw[WN];rfl,Gc,hb⟩
    case round=>
     clear Gc hb WN;obtain⟨q,hkq,hq,rfl,rfl,ho,hb⟩:=hrel;obtain⟨r,hr⟩:=ab (r8 L q);have adJ:r<58:=by rw[hr];exact PK _
     rw[←hr]
     by_cases hqN:q<N
     · have hqL:q<L.length:=by rw[HI.out.1];exact hqN
       have lZ:(oI L q).length=N:=by rw[DP L q (by omega),HI.out.1]
       obtain⟨y,hy⟩:∃y,y=L[q]:=⟨_,rfl⟩;obtain⟨_,e0,afn,_,oG,lR⟩:=ho.at_ (j:=q) (by simp[lZ];exact hqN);injection e0 with e0;injection e0 with e0;subst e0
       have hcy:wr.cell? ⟨g,q,none⟩=some (.int .u8 (y.toNat:Int)):=by
        rw[oG,dd];have h:=TV L q hqL;rw[age (by rw[lZ];exact hqN)] at h;injection h with h;rw[h,hy]
       have cW:=ho.store q (by omega) (Value.int IntKind.u8 (((r:Int)*256+(y.toNat:Int))/58));have CW:=y.toNat_lt
       have kn:(B8 (oI L q)).set q (Value.int IntKind.u8 (((r:Int)*256+(y.toNat:Int))/58))=B8 (oI L (q+1)):=by
        rw[←PL L q hqL,←hy,B8,B8,List.map_set];have e:r8 L q=r:=hr.symm;rw[e,agp,agA (by omega)];congr 2
       rw[kn] at cW;have abI:r8 L (q+1)=(r*256+y.toNat)%58:=by rw[Li L q hqL,←hr,←hy]
       have eg:=aa cW;have adK:=aa abI;clear kn cW abI hy hr oG lZ;go_wp2_with fail;refine⟨⟨q+1,by omega,by omega,rfl,?_,eg.out,hb.setCell (p:=⟨g,q,none⟩) hgb _⟩,by simp[intOf];omega⟩;rw[adK.out];congr 1
     have VN:q=L.length:=by rw[HI.out.1];omega
     obtain⟨y,hy⟩:=ab (dK (UInt8.ofNat r));have lV:∀h,(⟨aB.toArray⟩:ByteArray)[r]'h=y:=fun h=>by rw[hy];exact yv r adJ h
     simp only[aB] at lV;have zQ:Sl (wr.alloc (.cells #[.int .u8 (y.toNat:Int)] 5)) (wr.heap.size+1) (some ⟨wr.heap.size,0,none⟩) (B8 [y]):=Sl.one wr _ _
     have mJ:=du (P:=Tryz.prog) (wr.alloc (.cells #[.int .u8 (y.toNat:Int)] 5)) 37 9 5 (by kernel_rfl) (by kernel_rfl) (by kernel_rfl) _ _ 1 [y] zQ
     simp only[agm,List.length_nil,Nat.zero_add] at mJ;have Hy:=aa hy;have Hr:=aa hr;have Hqe:=aa VN;clear hy hr VN zQ
     have pD:((⟨#[y]⟩:ByteArray)++(⟨T.toArray⟩:ByteArray))=⟨(y::T).toArray⟩:=by
      apply ByteArray.ext;simp
     go_wp2_with fail;obtain⟨hLN,hLz,hLE,hLT⟩:=HI.out;have hxL:x∈L:=by rw[Hx.out];exact agl _
     have hVp:0<bp 256 L:=Ge L x hxL Hx0.out;obtain⟨v1,v2⟩:=xr L
     have Gd:Ow (wr.alloc (.cells #[.int .u8 (y.toNat:Int)] 5)) w.heap.size 5 (.slice (some ⟨g,0,none⟩) N c1) (B8 (gU 0 L).1):=by
      rw[←(DQ L).1,←Hqe.out];exact ho.alloc _
     refine⟨⟨y::T,(gU 0 L).1,E++[UInt8.ofNat (bp 256 L%58)],k,rfl,rfl,by omega,Gd,hb.alloc hb.size _,aa ⟨by rw[iL];exact hLN,Gf L k (by omega) hLz,?_,?_⟩⟩,?_⟩
     · rw[hLE,Gg _ hVp,v2,agL];rfl
     · rw[List.reverse_append,List.map_append,←hLT,Hy.out,Hr.out,Hqe.out,(DQ L).2,v1];rfl
     rw[Hrv.out,zx Gd IC,v2];have:bp 256 L/58<bp 256 L:=Nat.div_lt_self hVp (by omega);omega
  obtain⟨hLN,hLz,hLE,hLT⟩:=HI.out;have hV:bp 256 L=0:=Bq L (by rwa [af7 (by omega)] at hLz);have hT:T=(aU 58 V0 V0).reverse.map dK:=by rw[hLE,hV,hLT];simp[aU]
  have Dg:fK b=List.replicate (lz b) 49++T:=by rw[fK,eP 256 58 (by omega) (by omega) (by omega),←HV0.out,hT]
  obtain⟨z,hz⟩:=ab (lz b);have nF:z≤N:=by rw[hz,HN.out];exact U2 b
  obtain⟨wE,fR⟩:=ab wr;subst fR;have hsE:Sl wE w.heap.size A (B8 b):=hs.below hb;have abJ:=aa Dg;have Hz:=aa hz;clear hLN hLz hLE hLT hV hT Dg hz;go_wp2_with fail;go_loopw [4,9] (fun sv i wr=>∃j:Nat,wr=wE∧j≤z∧i=.int .i64 j∧sv=.string ⟨(List.replicate j 49++T).toArray⟩) (fun _ i _=>z-(intOf i).toNat)
  case atStart=>exact⟨0,rfl,agu _,rfl,rfl⟩
  case round=>
   obtain⟨j,rfl,hj,rfl,rfl⟩:=hrel;obtain⟨bA,oA,rfl,jm,db⟩:=hsE (by rw[B8_length,←HN.out];exact IC);obtain⟨Y,hY⟩:∃Y,Y=List.replicate j 49++T:=⟨_,rfl⟩;have hYl:Y.length≤6000:=by rw[hY,agc,List.length_replicate];omega
   have pD:((⟨#[49]⟩:ByteArray)++(⟨Y.toArray⟩:ByteArray))=⟨(49::Y).toArray⟩:=by
    apply ByteArray.ext;simp
   rw[←hY];have HY:=aa hY;have j9:=aa db;clear hY db
   by_cases hjN:j<N
   · have hjb:j<b.length:=by rw[←HN.out];exact hjN
     obtain⟨y,hy⟩:∃y,y=b[j]:=⟨_,rfl⟩
     have aD:wr.cell? ⟨bA,oA+j,none⟩=some (.int .u8 (y.toNat:Int)):=by
      rw[j9.out j (by simpa using hjb),dd,hy]
     have hyg:b[j]?=some y:=by rw[hy];simp
     clear hy
     by_cases hjz:j<z
     · have Zd:(y.toNat:Int)=0:=by
        have h:=V1 b j (by rw[←Hz.out];exact hjz);rw[hyg] at h;injection h with h;rw[h];rfl
       clear hyg;go_wp2_with fail;refine⟨⟨j+1,trivial,by omega,rfl,?_⟩,by simp[intOf];omega⟩;rw[HY.out,List.replicate_succ,agw]
     have Bp:j=z:=by omega
     have Zd:¬(y.toNat:Int)=0:=fun e=>PM b y (by rw[←Hz.out,←Bp];exact hyg) (UInt8.toNat_inj.1 (by simpa using e))
     have Zc:=aa Bp;clear hyg Bp;go_wp2_with fail;go_ret;refine⟨?_,hb⟩;rw[abJ.out,←Hz.out,←Zc.out,←HY.out];rfl
   have Zc:Hid (j=z):=aa (by omega);go_wp2_with fail;go_ret;refine⟨?_,hb⟩;rw[abJ.out,←Hz.out,←Zc.out,←HY.out];rfl
end Go.Proofs.YtcjioogololnoaaGreatDoor
namespace Go.Proofs.YtcjioogololnoaaGreatDoor
open Go.RowKit Go.Shelf
section
variable {P:Program} {ops:Array Oper} {Q:Act→World→Prop} {st:Nat→(Act→World→Prop)→Act→World→Prop} {N:Nat}
theorem uj {i:Nat} {rest:List (Nat×Nat)} {o:Oper} {a:Act} {w:World} (ho:ops[i]?=some o) (hg:o.guard=none) (src dst E:TypeId) (x:Operand) (xX:o.op=.convert src dst x)
 (hs:P.underlying src=some (.slice E)) (he:P.underlying E=some (.int .u8)) (hd:P.underlying dst=some .string)
 (A:Option Addr) (n c:Nat) (bs:List UInt8) (hx:a.eval x=.slice A n c) (hn:bs.length=n) (pP:Sl w w.heap.size A (B8 bs))
 (h:ay P ops Q st N rest (a.put o.dst (.string ⟨bs.toArray⟩)) w):ay P ops Q st N ((i,1)::rest) a w:=by
 simp only[ay,if_true,ho,Nat.one_ne_zero,if_false];refine⟨_,.inl ⟨by simp[Region.wanted,hg],fun w' x6=>?_⟩,h⟩;have mJ:=du (P:=P) w' src dst E hs he hd _ A c bs (pP.below x6.below);rw[hn] at mJ;unfold execOp;simp only[xX,hx,Sem.run_bind,mJ,Result.andThen_ok];rfl
end
theorem r9 (A:Option Addr) (c:Nat) (b:List UInt8) (w:World) (hs:Sl w w.heap.size A (B8 b)) (hl:b.length≤280) (sF:b.length≤c) (hc:c≤maxLen):
 Calls Tryz.prog 89 #[.slice A b.length c] w fun e W'=>e=.returned (.string ⟨(fK (checked b)).toArray⟩)∧Below w.heap.size w W':=by
 have bW:Tryz.prog.follows .mixedOrders=true:=by kernel_rfl
 go_enter Tryz.func89,Tryz.ntmps89;go_wp2_with fail;refine(ui A c b w hs (by omega) sF hc).mono ?_;rintro e w1 ⟨rfl,fj⟩;obtain⟨h1,pC⟩:=ab (nw (nw b));have j7:h1.length=32:=by rw[pC];exact eU _
 rw[←pC];obtain⟨oc,fD⟩:∃oc,oc=(B8 h1).toArray:=⟨_,rfl⟩;have dO:oc.size=32:=by rw[fD];simp[j7]
 have cG:Hid ((Tryz.prog.info? 56).map (·.size)=some oc.size):=aa (by rw[dO];kernel_rfl);have iy:Hid ((Array.replicate 32 (Value.int .u8 0)).size=oc.size):=aa (by rw[dO];simp);have fQ:Hid (oc.all (·.oneCell')=true):=aa (by rw[fD];exact all_oneCell_toArray (aG _));rw[←fD];have pA:=aa fD;have J5:=aa pC;have gq:=fj.size;have jY:=(hs.below fj);clear fD pC dO hs;go_wp2_with (refine af6 rfl 56 (.tmp 3) (.tmp 5) rfl w1.heap.size oc rfl rfl 56 _ (af4 w1 _) cG.out iy.out fQ.out ?_;rw[agi]);obtain⟨w2,iN⟩:=ab (w1.alloc (.cells oc 56));obtain⟨gh,qp⟩:=ab w1.heap.size;rw[←qp,←iN];have jZ:Below w1.heap.size w1 w2:=by rw[iN];exact(af5 _ _).alloc (af2 _) _
 have mI:w2.heap.size=w1.heap.size+1:=by rw[iN];exact agn _ _
 have lv:w2.heap[gh]?=some (.cells (B8 h1).toArray 56 (0,0)):=by rw[iN,←pA.out,qp];exact af4 w1 _
 have px:Sl w2 w2.heap.size A (B8 b):=(jY.below (jZ.mono gq)).mono (by omega);have pT:gh<w2.heap.size:=by omega
 have Yc:=fj.trans (jZ.mono gq);have afu:w1.heap.size≤w2.heap.size:=by omega
 clear mI;have Hg2:=aa lv;have Oy:=aa px;clear lv iN jY px qp cG iy fQ pA;refine an [(1,0),(3,0),(0,2),(2,2),(4,2),(5,2),(6,2)] 4 bW (by kernel_rfl) (by intro c a d v w h;cases d<;>exact h) ?_
 repeat ((first|refine ag rfl fun K hK=>?_|refine af rfl fun K hK=>?_);go_simp;(first|refine hK _ ?_|(simp only[IntWalk.iteOmega];go_simp;refine hK _ ?_)|(go_bits;go_simp;refine hK _ ?_));clear hK K;try go_bits)
 refine ae rfl rfl (fun K hK=>?_);go_wp2_with fail;refine⟨.inr (bM _ _),?_⟩;refine ae rfl rfl (fun K hK=>?_);obtain⟨w3,mf⟩:∃w3,w3=(w2.alloc (.cells #[] 5)).drew:=⟨_,rfl⟩
 rw[←mf];have bd:Below w2.heap.size w2 w3:=by rw[mf];exact((af5 _ _).alloc (af2 _) _).drew
 have yP:=bd.size;have hs3:Sl w3 w3.heap.size A (B8 b):=(Oy.out.below bd).mono yP;refine bn (m:=b.length) (c:=c) (base:=w2.heap.size) (xs:=[]) (v:=.slice (some ⟨w2.heap.size,0,none⟩) 0 0) (A:=A) (B:=w3.heap.size) (news:=B8 b) jf (.tmp 6) (.tmp 7) rfl rfl (Ow.nil_ _ _ _ _) rfl hs3 (B8_length _) (aG _) (by simp[maxLen];omega) (by simp;omega) yP ?_;intro v4 w4 lQ xY qm;rw[agJ] at lQ;obtain⟨Av,cv,rfl,J1,KE⟩:=aH lQ;have dn:=bd.grown xY yP (by simp[az]);have VK:=dn.size;have pE:Below w3.heap.size w3 w4:=(af5 _ _).grown xY (af2 _) (by simp[az]);refine hK _ _ ⟨.inr (by rw[←mf];exact aj pE),?_⟩;clear hK K;go_simp;refine ae rfl rfl (fun K hK=>?_);have adZ:=(dn.block gh pT).trans Hg2.out
 have hS4:Sl w4 w4.heap.size (some ⟨gh,0,none⟩) (B8 (h1.take 4)):=fun _=>⟨_,0,rfl,by omega,fun j hj=>by
  have hj4:j<4:=by simp at hj;omega
  rw[agb w4 _ _ _ _ (0,0) adZ,Nat.zero_add,dd];simp[B8,j7,show j<32 by omega]⟩
 refine bn (m:=4) (c:=32) (base:=w2.heap.size) (xs:=B8 b) (v:=.slice Av b.length cv) (A:=some ⟨gh,0,none⟩) (B:=w4.heap.size) (news:=B8 (h1.take 4)) jf (.tmp 8) (.tmp 9) rfl rfl lQ rfl hS4 (by simp[j7]) (aG _) (by rw[B8_length];simp[maxLen];omega) (by rw[B8_length];omega) VK ?_;intro v5 w5 nO Rz Aa;rw[←bu,J5.out] at nO;have eh:=dn.grown Rz VK (fun r hr=>(lQ.row r hr).1);refine hK _ _ ⟨.inl (by decide),?_⟩;clear hK K;obtain⟨A5,c5,rfl,hc5,afv⟩:=aH nO;have hlen:(b++(nw (nw b)).take 4).length=b.length+4:=cA b;go_simp;refine ae rfl rfl (fun K hK=>?_);go_wp2_with fail;have Dg:=DR A5 c5 (checked b) w5 nO.sl (by rw[cA];omega);rw[cA] at Dg;refine Dg.mono ?_;rintro e w6 ⟨rfl,hB6⟩;go_wp2_with fail;refine⟨.inl (by decide),?_⟩;refine ae rfl rfl (fun K hK=>?_);go_wp2_with fail;refine⟨.inl (by decide),?_⟩;refine ak ?_;go_wp2_with fail;go_ret;exact⟨rfl,(Yc.trans (eh.mono (by omega))).trans (hB6.mono (by have:=eh.size;omega))⟩
theorem Bt (s:ByteArray) (w:World) (hsz:s.size≤4096):
 Calls Tryz.prog 120 #[.string s] w fun e W'=>∃A c,e=.returned (.tuple #[.slice A (ff s.data.toList).2.length c,.int .i64 ((ff s.data.toList).1:Int)])∧Sl W' W'.heap.size A (B8 (ff s.data.toList).2)∧Below w.heap.size w W':=by
 have bW:Tryz.prog.follows .mixedOrders=true:=by kernel_rfl
 obtain⟨F,hF⟩:=ab (ff s.data.toList);obtain⟨S,hS⟩:=ab s.data.toList;have rK:=DO s w hsz;rw[←hF];rw[←hS] at rK hF;obtain⟨E,hE⟩:∃E,E=(cu S).1:=⟨_,rfl⟩;obtain⟨B,hB⟩:∃B,B=(cu S).2:=⟨_,rfl⟩;have yi:B.length≤250:=by rw[hB];exact zg S
 have hE5:E=0∨E=2∨E=3:=by rw[hE];exact zh S
 rw[ff,←hE,←hB] at hF;rw[←hE,←hB] at rK;have Di:=aa rK;have HF:=aa hF;clear rK hF hS hE hB
 by_cases me:E=0
 · subst me
   go_enter Tryz.func120,Tryz.ntmps120;go_wp2_with fail;refine Di.out.mono ?_;rintro e w1 ⟨v,rfl,ho,hb⟩;obtain⟨Av,cv,rfl,J1,KE⟩:=aH ho;obtain⟨n,hn⟩:=ab B.length;rw[←hn];rw[←hn] at ho J1 yi
   by_cases h4:n<4
   · have sN:F=(4,[]):=by rw[HF.out,if_neg (by simp),if_pos (by omega)]
     have vC:=aa sN;clear sN hn;go_wp2_with fail;go_ret2;rw[vC.out];exact⟨none,0,rfl,Sl.nil,hb⟩
   obtain⟨m,hm⟩:∃m,m=n-4:=⟨_,rfl⟩;have em:(n:Int)-4=(m:Int):=by omega
   have hmn:m≤n:=by omega
   have hmc:m≤cv:=by omega
   have Rp:Sl w1 w1.heap.size Av (B8 B):=ho.sl;have jO:(B.take m).length=m:=by simp;omega
   have hdr:(B.drop m).length=4:=by simp;omega
   have vW:=ui Av cv (B.take m) w1 (by rw[oQ];exact Rp.take m) (by omega) (by omega) KE;rw[jO] at vW;obtain⟨h1,pC⟩:=ab (nw (nw (B.take m)));have j7:h1.length=32:=by rw[pC];exact eU _
   rw[←pC] at vW;obtain⟨oc,fD⟩:∃oc,oc=(B8 h1).toArray:=⟨_,rfl⟩;have dO:oc.size=32:=by rw[fD];simp[j7]
   have cG:Hid ((Tryz.prog.info? 56).map (·.size)=some oc.size):=aa (by rw[dO];kernel_rfl);have iy:Hid ((Array.replicate 32 (Value.int .u8 0)).size=oc.size):=aa (by rw[dO];simp);have fQ:Hid (oc.all (·.oneCell')=true):=aa (by rw[fD];exact all_oneCell_toArray (aG _));rw[←fD] at vW;have Ye:=aa vW;have pA:=aa fD;have J5:=aa pC;have Hn:=aa hn;have Hm:=aa hm;have oh:=aa jO;have Hdr:=aa hdr;clear vW fD pC dO hn hm jO hdr;go_wp2_with fail;refine Ye.out.mono ?_;rintro e w2 ⟨rfl,jZ⟩;have mI:=jZ.size;go_wp2_with (refine af6 rfl 56 (.tmp 6) (.tmp 23) rfl w2.heap.size oc rfl rfl 56 _ (af4 w2 _) cG.out iy.out fQ.out ?_;rw[agi]);obtain⟨w3,mf⟩:=ab (w2.alloc (.cells oc 56));obtain⟨gh,qp⟩:=ab w2.heap.size;rw[←qp,←mf];have py:Below w2.heap.size w2 w3:=by rw[mf];exact(af5 _ _).alloc (af2 _) _
   have yP:w3.heap.size=w2.heap.size+1:=by rw[mf];exact agn _ _
   have fl:w3.heap[gh]?=some (.cells (B8 h1).toArray 56 (0,0)):=by rw[mf,←pA.out,qp];exact af4 w2 _
   have OA:=jZ.trans (py.mono mI);have S9:Sl w3 w3.heap.size Av (B8 B):=(Rp.below OA).mono (by omega)
   have Nw:Sl w3 w3.heap.size (some ⟨gh,0,none⟩) (B8 (h1.take 4)):=fun _=>⟨_,0,rfl,by omega,fun j hj=>by
    have hj4:j<4:=by simp at hj;omega
    rw[agb w3 _ _ _ _ (0,0) fl,Nat.zero_add,dd];simp[B8,j7,show j<32 by omega]⟩
   have bd:=hb.trans (OA.mono hb.size);have OB:Sl w3 w3.heap.size Av (B8 (B.take m)):=by rw[oQ];exact S9.take m
   have hY3:Sl w3 w3.heap.size (if cv=m then Av else Av.map fun x=>x.add m) (B8 (B.drop m)):=by
    have h:=S9.cutf (k:=m) (cap:=cv) (fun x=>x.add m) (fun b o=>fM b o m) (by rw[B8_length,←Hn.out];exact J1) (by rw[B8_length,←Hn.out];exact hmn);rw[oR];exact h
   have hnm:n-m=4:=by have:=Hm.out;omega
   have Yf:=aa OB;have HX3:=aa Nw;have HY3:=aa hY3
   have U7:F=if h1.take 4=B.drop m then (0,B.take m) else (5,[]):=by
    have hl4:¬B.length<4:=by have:=Hn.out;omega
    rw[HF.out,if_neg (by simp),if_neg hl4,←Hn.out,←Hm.out,←J5.out]
   have xZ:=aa U7;have ad0:(h1.take 4).length=4:=by simp[j7]
   clear fl mf qp cG iy fQ pA Nw hY3 S9 OB ho Rp yP U7;refine an [(0,0),(1,1),(2,0),(3,0),(4,0),(5,0),(6,0),(7,1),(8,0)] 9 bW (by kernel_rfl) (by intro c a d v w h;cases d<;>exact h) ?_
   repeat ((first|refine ag rfl fun K hK=>?_|refine af rfl fun K hK=>?_);go_simp;(first|refine hK _ ?_|(simp only[IntWalk.iteOmega];go_simp;refine hK _ ?_)|(go_bits;go_simp;refine hK _ ?_));clear hK K;try go_bits)
   refine uj rfl rfl 37 9 5 (.tmp 24) rfl (by kernel_rfl) (by kernel_rfl) (by kernel_rfl) (some ⟨gh,0,none⟩) 4 32 (h1.take 4) rfl ad0 HX3.out ?_;go_simp
   repeat ((first|refine ag rfl fun K hK=>?_|refine af rfl fun K hK=>?_);go_simp;(first|refine hK _ ?_|(simp only[IntWalk.iteOmega];go_simp;refine hK _ ?_)|(go_bits;go_simp;refine hK _ ?_));clear hK K;try go_bits)
   refine uj rfl rfl 37 9 5 (.tmp 30) rfl (by kernel_rfl) (by kernel_rfl) (by kernel_rfl) (if cv=m then Av else Av.map fun x=>x.add m) 4 (cv-m) (B.drop m) rfl Hdr.out HY3.out ?_;go_simp;obtain⟨l1,jY⟩:∃l,l=h1.take 4:=⟨_,rfl⟩;obtain⟨l2,px⟩:∃l,l=B.drop m:=⟨_,rfl⟩;have hF3:=xZ.out;rw[←jY,←px] at hF3⊢;have Ru:=aa hF3;clear jY px hF3 xZ HX3 HY3
   by_cases hq:l1=l2
   · have sN:F=(0,B.take m):=by rw[Ru.out,if_pos hq]
     have vC:=aa sN;subst hq;clear sN Ru
     repeat ((first|refine ag rfl fun K hK=>?_|refine af rfl fun K hK=>?_);go_simp;(first|refine hK _ ?_|(simp only[IntWalk.iteOmega];go_simp;refine hK _ ?_)|(go_bits;go_simp;refine hK _ ?_));clear hK K;try go_bits)
     refine ak ?_;go_wp2_with fail;go_ret2;rw[vC.out];refine⟨Av,⟨cv,?_⟩,Yf.out,bd.drew⟩;rw[oh.out];rfl
   have sN:F=(5,[]):=by rw[Ru.out,if_neg hq]
   have vC:=aa sN;clear sN Ru
   repeat ((first|refine ag rfl fun K hK=>?_|refine af rfl fun K hK=>?_);go_simp;(first|refine hK _ ?_|(simp only[IntWalk.iteOmega];go_simp;refine hK _ ?_)|(go_bits;go_simp;refine hK _ ?_));clear hK K;try go_bits)
   refine ak ?_;go_wp2_with fail
   · go_ret2
     rw[vC.out];exact⟨none,⟨0,rfl⟩,Sl.nil,bd.drew⟩
   exfalso;have hb:(l1==l2)=false:=by simpa using hq
   simp_all
 have adi:¬((E:Int)=0):=by omega
 go_enter Tryz.func120,Tryz.ntmps120;go_wp2_with fail;refine Di.out.mono ?_;rintro e w1 ⟨v,rfl,ho,hb⟩;go_wp2_with fail;go_ret2;rw[HF.out,if_pos me];exact⟨none,0,rfl,Sl.nil,hb⟩
end Go.Proofs.YtcjioogololnoaaGreatDoor
namespace Go.Proofs.YtcjioogololnoaaGreatDoor
open Go.RowKit
theorem T6 (b:List UInt8) (hb:b.length≤124):cu (fK b)=(0,b):=by
 obtain⟨r,h1,h2⟩:=xe b;obtain⟨z,hz⟩:=ab (lz b);rw[←hz] at h1;obtain⟨V,hV⟩:=ab (bp 256 r);have hVb:bp 256 b=V:=by rw[h1,gi,hV]
 have mE:z+r.length=b.length:=by rw[h1];simp
 have hD:dc 256 58 b=aU 58 V V:=by rw[eP 256 58 (by omega) (by omega) (by omega),hVb]
 obtain⟨D,TJ⟩:=ab (aU 58 V V);have Pw:∀d∈D,d.toNat<58:=by rw[TJ];exact lL 58 (by omega) (by omega) V
 have jX:∀d,D.reverse.head?=some d→d.toNat≠0:=by rw[TJ];exact xc 58 (by omega) (by omega) V V (af2 _)
 have hlen:D.length≤3*((r.length+1)/2):=by
  rw[TJ];exact oC 58 (by omega) _ _ (agq (by rw[hV];exact tm 256 (by omega) r (Bi r)) (xd _))
 have hs:fK b=List.replicate z 49++D.reverse.map dK:=by rw[fK,←hz,hD,TJ]
 have pP:(fK b).length=z+D.length:=by rw[hs];simp
 have dV:∀c∈fK b,c∈aB:=by
  intro c hc;rw[hs,List.mem_append] at hc;rcases hc with hc|hc
  · rw[(List.mem_replicate.1 hc).2];decide
  obtain⟨d,hd,rfl⟩:=List.mem_map.1 hc;exact I6 d (Pw d (List.mem_reverse.1 hd))
 have abO:(fK b).dropWhile (·==49)=D.reverse.map dK:=by
  rw[hs];refine K6 z _ ?_;intro d hd e;rw[List.head?_map] at hd;obtain⟨x,hx,hxd⟩:=Option.map_eq_some_iff.1 hd;exact jX x hx (TD x (Pw x (List.mem_reverse.1 (List.mem_of_mem_head? hx))) (by rw[hxd,e]))
 have nP:(fK b).map dR=List.replicate z 0++D.reverse:=by
  rw[hs,List.map_append,List.map_replicate,List.map_map];congr 1
  conv=>rhs;rw[←List.map_id D.reverse]
  exact List.map_congr_left fun d hd=>TB d (Pw d (List.mem_reverse.1 hd))
 have abP:dc 58 256 ((fK b).map dR)=r.reverse:=by
  rw[eP 58 256 (by omega) (by omega) (by omega),nP,gi,TJ,lK 58 (by omega) (by omega) V V (af2 _),hV];exact(qa 256 (by omega) r (Bi r) h2).1
 rw[cu,if_neg (by omega),if_pos dV,abP,abO,pP,List.reverse_reverse];rw[show z+D.length-(D.reverse.map dK).length=z from by simp,←h1]
theorem DT (b:List UInt8) (hb:b.length≤120):ff (fK (checked b))=(0,b):=by
 have h:=T6 (checked b) (by rw[cA];omega);have hl:=cA b;unfold ff;rw[h];simp only[ne_eq,not_true_eq_false,if_false,hl];rw[if_neg (by omega),show b.length+4-4=b.length from by omega];have ht:(checked b).take b.length=b:=by rw[checked];simp
 have hd:(checked b).drop b.length=(nw (nw b)).take 4:=by rw[checked];simp
 rw[ht,hd,if_pos rfl]
theorem T7 (s:List UInt8) (h:(cu s).1=0):fK (cu s).2=s:=by
 unfold cu at h⊢;split at h
 · simp at h
 rename_i aa2;split at h
 case isFalse=>simp at h
 rename_i dV;rw[if_neg aa2,if_pos dV];clear h;obtain⟨t,ht⟩:=ab (s.dropWhile (·==49));obtain⟨z,hz⟩:∃z,z=s.length-t.length:=⟨_,rfl⟩;have hs:s=List.replicate z 49++t:=by rw[hz,ht];exact iq s
 have Zi:∀d,t.head?=some d→d≠49:=by
  intro d hd;have:=List.head?_dropWhile_not (·==49) s;rw[←ht,hd] at this;simpa using this
 have PV:∀c∈t,c∈aB:=fun c hc=>dV c (by rw[hs];simp[hc])
 have nP:s.map dR=List.replicate z 0++t.map dR:=by
  rw[hs,List.map_append,List.map_replicate];rfl
 obtain⟨W,hW⟩:=ab (bp 58 (t.map dR))
 have eJ:dc 58 256 (s.map dR)=aU 256 W W:=by
  rw[eP 58 256 (by omega) (by omega) (by omega),nP,gi,hW]
 show fK (List.replicate (s.length-(s.dropWhile (·==49)).length) 0++(dc 58 256 (s.map dR)).reverse)=s;rw[eJ,←ht,←hz,fK,Bh z _ (xc 256 (by omega) (by omega) W W (af2 _))];rw[eP 256 58 (by omega) (by omega) (by omega),gi,lK 256 (by omega) (by omega) W W (af2 _),hW]
 rw[(qa 58 (by omega) (t.map dR) (fun d hd=>by obtain⟨c,hc,rfl⟩:=List.mem_map.1 hd;exact nX c (PV c hc)) (fun d hd e=>by
  rw[List.head?_map] at hd;obtain⟨c,hc,rfl⟩:=Option.map_eq_some_iff.1 hd;exact Zi c hc (Pp c (PV c (List.mem_of_mem_head? hc)) e))).1]
 rw[List.reverse_reverse,List.map_map]
 conv=>rhs;rw[hs]
 congr 1
 conv=>rhs;rw[←List.map_id t]
 exact List.map_congr_left fun c hc=>TC c (PV c hc)
end Go.Proofs.YtcjioogololnoaaGreatDoor
namespace Go.Proofs.YtcjioogololnoaaGreatDoor
open Go
theorem xu:∀n:Fin 16,ig (fG n.val)=true∧rQ (fG n.val)=n.val:=by decide+kernel
theorem xv:∀b:List UInt8,cJ (eF b)=some b
 |[]=>rfl
 |c::b=>by
  have hc:=c.toNat_lt;have h1:=xu ⟨c.toNat/16,by omega⟩;have h2:=xu ⟨c.toNat%16,by omega⟩;simp only[] at h1 h2;rw[eF,cJ,h1.1,h2.1,h1.2,h2.2,xv b,show c.toNat/16*16+c.toNat%16=c.toNat by omega];simp
theorem Ji:∀l:List UInt8,l.length=4→fF (dY l)=l
 |[a,b,c,d],_=>by
  have ha:=a.toNat_lt;have hb:=b.toNat_lt;have hc:=c.toNat_lt;have hd:=d.toNat_lt;have e:dY [a,b,c,d]=((a.toNat*256+b.toNat)*256+c.toNat)*256+d.toNat:=by simp[dY]
  have u:∀(n:Nat) (x:UInt8),n%256=x.toNat→UInt8.ofNat n=x:=fun n x hx=>UInt8.toNat_inj.1 (by rw[agp];exact hx)
  rw[e,fF,u _ a (by omega),u _ b (by omega),u _ c (by omega),u _ d (by omega)]
 |[],h=>by simp at h
 |[_],h=>by simp at h
 |[_,_],h=>by simp at h
 |[_,_,_],h=>by simp at h
 |_::_::_::_::_::_,h=>by simp at h
def HNorm (top:HKey):Prop:=∃b:List UInt8,b.length=78∧dY (b.take 4)=eb (fU b).priv∧(fU b).good=true∧qy (fU b)=true∧top=fU b
theorem DU {s:List UInt8} (h:(cM s).1=0):HNorm (cM s).2:=by
 unfold cM at h⊢;split
 · next hf=>
   rw[if_pos hf] at h;unfold ku at h⊢;split
   · next hl=>
     rw[if_pos hl] at h;split
     · next hc=>
       simp only[agz,agy] at hc;exact⟨_,hl,hc.1.1,hc.1.2,hc.2,rfl⟩
     next hc=>
     rw[if_neg hc] at h
     cases h
   next hl=>
   rw[if_neg hl] at h
   cases h
 next hf=>
 rw[if_neg hf] at h;exact absurd h hf
theorem DV (b:List UInt8) (h:b.length=78) (hv:dY (b.take 4)=eb (fU b).priv):fV (fU b)=b:=by
 have e1:fF (eb (fU b).priv)=b.take 4:=by rw[←hv];exact Ji _ (by simp[h])
 have e2:fF (fU b).child=(b.drop 9).take 4:=Ji _ (by simp[h]);rw[fV,e1,e2];show b.take 4++b.getD 4 0::((b.drop 5).take 4++((b.drop 9).take 4++((b.drop 13).take 32++b.drop 45)))=b
 have d1:(b.drop 13).take 32++b.drop 45=b.drop 13:=by
  have:=agH 32 (b.drop 13);rwa [List.drop_drop] at this
 have d2:(b.drop 9).take 4++b.drop 13=b.drop 9:=by
  have:=agH 4 (b.drop 9);rwa [List.drop_drop] at this
 have d3:(b.drop 5).take 4++b.drop 9=b.drop 5:=by
  have:=agH 4 (b.drop 5);rwa [List.drop_drop] at this
 have d4:b.getD 4 0::b.drop 5=b.drop 4:=by
  rw[List.drop_eq_getElem_cons (show 4<b.length by omega),agB,age (by omega)];rfl
 rw[d1,d2,d3,d4,agH]
theorem uk {top:HKey} (h:HNorm top):cM (eO top)=(0,top):=by
 obtain⟨b,hl,hv,hg,hr,rfl⟩:=h;have hf:ff (eO (fU b))=(0,b):=by rw[eO,DV b hl hv];exact DT b (by omega)
 rw[cM,hf,if_pos rfl];simp only[];rw[ku,if_pos hl,if_pos (by simp[hv,hg,hr])]
theorem HNorm.ok {top:HKey} (h:HNorm top):top.Ok:=by
 obtain⟨b,hl,_,_,_,rfl⟩:=h;exact rL b hl
theorem PW:∀b:List UInt8,3≤b.length→∃x y z t,b=x::y::z::t
 |x::y::z::t,_=>⟨x,y,z,t,rfl⟩
 |[],h=>by simp at h
 |[_],h=>by simp at h
 |[_,_],h=>by simp at h
theorem Gl {top:HKey} (h:HNorm top):66<(eO top).length:=by
 obtain⟨b,hl,hv,_,_,rfl⟩:=h;rw[eO,DV b hl hv];obtain⟨cb,OX⟩:=ab (checked b);have db:cb.length=82:=by rw[OX,cA,hl]
 obtain⟨V,hV⟩:=ab (bp 256 cb);have hD:dc 256 58 cb=aU 58 V V:=by rw[eP 256 58 (by omega) (by omega) (by omega),hV]
 have hVD:V<58^(aU 58 V V).length:=by
  have h1:=lK 58 (by omega) (by omega) V V (af2 _);have h2:=tm 58 (by omega) (aU 58 V V).reverse (fun d hd=>lL 58 (by omega) (by omega) V d (List.mem_reverse.1 hd));rw[h1,List.length_reverse] at h2;exact h2
 have hVb:256^81≤V:=by
  have e:V=dY cb:=hV
  obtain⟨c,r,Tv⟩:∃c r,cb=c::r:=by
   cases cb with
   |nil=>simp at db
   |cons c r=>exact⟨c,r,rfl⟩
  have Aq:c.toNat=4:=by
   have bL:∃b',b=c::b':=by
    cases b with
    |nil=>simp at hl
    |cons x b'=>
     rw[checked,agw,Tv] at OX;injection OX with h1 h2;exact⟨b',by rw[h1]⟩
   obtain⟨b',rfl⟩:=bL;have hl3:3≤b'.length:=by rw[agm] at hl;omega
   obtain⟨x,y,z,t,rfl⟩:=PW b' hl3;have e4:dY ((c::x::y::z::t).take 4)=((c.toNat*256+x.toNat)*256+y.toNat)*256+z.toNat:=by simp[dY]
   rw[e4] at hv;have h1:=x.toNat_lt;have h2:=y.toNat_lt;have h3:=z.toNat_lt;unfold eb at hv;split at hv<;>omega
  have lZ:r.length=81:=by rw[Tv] at db;simpa using db
  rw[e,Tv,CS,lZ,Aq];exact agx (Nat.le_mul_of_pos_left _ (by decide)) (Nat.le_add_right _ _)
 rw[←OX,fK,hD];rw[agc,List.length_map,List.length_reverse,List.length_replicate];rcases Nat.lt_or_ge 66 (aU 58 V V).length with hh|hh
 · omega
 exfalso;have h1:58^(aU 58 V V).length≤58^66:=Nat.pow_le_pow_right (by omega) hh;omega
end Go.Proofs.YtcjioogololnoaaGreatDoor
