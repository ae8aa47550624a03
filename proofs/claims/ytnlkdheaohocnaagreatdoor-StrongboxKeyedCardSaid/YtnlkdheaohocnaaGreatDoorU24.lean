/- Whoever walks down with the secret signs what whoever walks down without it verifies, and the text of either walks the same way (StrongboxKeyed). No condition. -/
import Derived.Test.YtnlkdheaohocnaaGreatDoorU1
import Derived.Test.YtnlkdheaohocnaaGreatDoorU4
import Derived.Test.YtnlkdheaohocnaaGreatDoorU5
import Derived.Shelf.RegionOpen
import Derived.Test.YtnlkdheaohocnaaGreatDoorU8
import Derived.BigQuiet
import Derived.Sort.QuietIn
import Derived.Stop.RegionWithIn
import Derived.Deep.QuietTactic
import Derived.StillTailTactics
import Derived.Deep.RegionHeld3
import Derived.Deep.RegionWith
set_option maxRecDepth 1000000
set_option maxHeartbeats 16000000
set_option linter.unusedVariables false
set_option linter.unusedSimpArgs false
namespace Go.Proofs.YtnlkdheaohocnaaGreatDoor
open Go.RowKit Go.Shelf
theorem Sl.cutf {w:World} {B:Nat} {A:Option Addr} {xs:List Value} (h:Sl w B A xs) {k cap:Nat} (f:Addr→Addr) (hf:∀b o,f ⟨b,o,none⟩=⟨b,o+k,none⟩) (hc:xs.length≤cap) (hk:k≤xs.length):
 Sl w B (if cap=k then A else A.map f) (xs.drop k):=fun hn=>by
 have hk':k<xs.length:=by simp at hn;omega
 obtain⟨b,o,rfl,hb,aS⟩:=h (by omega);rw[if_neg (by omega)];refine⟨b,o+k,by simp[hf],hb,fun j hj=>?_⟩;have:=aS (k+j) (by simp at hj;omega);rw[Nat.add_assoc,this];simp
theorem qw (bs:List UInt8) (x:UInt8) (k:Nat) (h:k≤bs.length) (dc:∀j (hj:j<bs.length),j<k→bs[j]=x) (AU:∀(hk:k<bs.length),bs[k]≠x):(bs.dropWhile (·==x)).length=bs.length-k:=by
 induction bs generalizing k with
 |nil=>simp
 |cons b bs ih=>
  cases k with
  |zero=>
   have:=AU (by simp);rw[List.dropWhile_cons_of_neg (by simpa using this)];simp
  |succ k=>
   have h0:=dc 0 (by simp) (by omega)
   rw[List.dropWhile_cons_of_pos (by simpa using h0),ih k (by simpa using h) (fun j hj Fl=>by
    have:=dc (j+1) (by simpa using hj) (by omega);simpa using this) (fun hk=>by have:=AU (by simpa using hk);simpa using this)]
   simp
theorem yT (A:Option Addr) (c:Nat) (bs:List UInt8) (x:UInt8) (w:World) (hs:Sl w w.heap.size A (B8 bs)) (jT:bs.length≤c):
 Calls Tryz.prog 132 #[.slice A bs.length c,.int .u8 (x.toNat:Int)] w fun e W'=>∃A' c',e=.returned (.slice A' (bs.dropWhile (·==x)).length c')∧W'=w:=by
 have NK:=ab jT;obtain⟨N,hN⟩:=ae bs.length;rw[←hN];have HN:=ab hN;clear jT hN;go_enter Tryz.func132,Tryz.ntmps132;go_wp2_with fail;go_loopw [0] (fun v wr=>∃k A' c' r,wr=w∧Hid (r+k=N)∧v=.slice A' r c'∧r≤c'∧(∀j (hj:j<bs.length),j<k→bs[j]=x)∧Sl w w.heap.size A' (B8 (bs.drop k))) (fun v _=>match v with|.slice _ n _=>n|_=>0)
 case atStart=>exact⟨0,A,c,N,rfl,ab rfl,rfl,by have:=NK.out;have:=HN.out;omega,fun j _ h=>absurd h (by omega),hs⟩
 case round=>
  obtain⟨k,A',c',r,rfl,Hr,rfl,hrc,dc,hsk⟩:=hrel;have hlen:(bs.drop k).length=r:=by have:=Hr.out;have:=HN.out;simp;omega
  by_cases rG:0<r
  · have uw:k<bs.length:=by have:=Hr.out;have:=HN.out;omega
    obtain⟨b,o,rfl,hb,gb⟩:=hsk (by simp;omega);have h0:=gb 0 (by simp;omega);rw[ed,Nat.add_zero] at h0;simp only[List.getElem_drop,Nat.add_zero] at h0;obtain⟨y,hy⟩:∃y,y=bs[k]:=⟨_,rfl⟩;rw[←hy] at h0;have Hhc:=ab gb;have Hy:=ab hy;have IG:=ab hlen;have BG:=ab dc;clear gb hy hlen dc
    by_cases zD:y=x
    · have exy:(y.toNat:Int)=(x.toNat:Int):=by rw[zD]
      go_wp2_with fail;refine⟨⟨k+1,_,c'-1,r-1,trivial,ab (by have:=Hr.out;omega),rfl,by omega,fun j hj Fl=>?_,fun hn=>?_⟩,by simp;omega⟩
      · by_cases hjk':j<k
        · exact BG.out j hj hjk'
        obtain rfl:j=k:=by omega
        rw[←Hy.out,zD]
      have Ks:k+1<bs.length:=by simp at hn;omega
      have:=Hr.out;have:=HN.out;rw[if_neg (by omega)];refine⟨b,o+1,rfl,hb,fun j hj=>?_⟩;have zB:j<bs.length-(k+1):=by simpa using hj
      have h1:=Hhc.out (j+1) (by simp;omega);rw[show o+1+j=o+(j+1) by omega,h1];simp only[ed,List.getElem_drop,show k+(j+1)=k+1+j by omega]
    have exy:¬(y.toNat:Int)=(x.toNat:Int):=fun e=>zD (UInt8.toNat_inj.1 (by omega))
    go_wp2_with fail;go_ret;refine⟨some ⟨b,o,none⟩,c',?_,rfl⟩;show Ending.returned (.slice (some ⟨b,o,none⟩) r c')=_;rw[qw bs x k (by omega) BG.out (fun hk=>by rw[←Hy.out];exact zD),show bs.length-k=r from by have:=Hr.out;have:=HN.out;omega]
  obtain rfl:r=0:=by omega
  have uw:k=bs.length:=by have:=Hr.out;have:=HN.out;omega
  have qx:=ab uw;have BG:=ab dc;clear uw dc;go_wp2_with fail;go_ret;refine⟨none,0,?_,rfl⟩;show Ending.returned (.slice none 0 0)=_;rw[qw bs x k (by have:=qx.out;omega) BG.out (fun hk=>absurd hk (by have:=qx.out;omega)),show bs.length-k=0 from by have:=qx.out;omega]
theorem yU (A:Option Addr) (c:Nat) (bs:List UInt8) (w:World) (hs:Sl w w.heap.size A (B8 bs)) (jT:bs.length≤c):
 Calls Tryz.prog 123 #[.slice A bs.length c,.string ⟨#[49]⟩] w fun e W'=>∃A' c',e=.returned (.slice A' (bs.dropWhile (·==49)).length c')∧W'=w:=by
 by_cases hb:bs=[]
 · subst hb
   go_enter Tryz.func123,Tryz.ntmps123;go_wp2_with fail;go_ret;exact⟨_,_,rfl,rfl⟩
 have qP:0<bs.length:=List.length_pos_iff.2 hb;go_enter Tryz.func123,Tryz.ntmps123;go_wp2_with fail;refine(yT A c bs 49 w hs jT).mono ?_;rintro e w' ⟨A',c',rfl,rfl⟩;go_wp2_with fail;go_ret;exact⟨_,_,rfl,rfl⟩
theorem BH (A:Option Addr) (c:Nat) (bs:List UInt8) (w:World) (hs:Sl w w.heap.size A (B8 bs)) (jT:bs.length≤c) (hl:bs.length≤4096):
 Calls Tryz.prog 105 #[.slice A bs.length c,.int .u8 49] w fun e W'=>e=.returned (.int .i64 ((bs.length-(bs.dropWhile (·==49)).length:Nat):Int))∧Below w.heap.size w W':=by
 have Tu:(bs.dropWhile (·==49)).length≤bs.length:=(List.dropWhile_sublist _).length_le;have Ql:Sl (w.alloc (.cells #[.int .u8 49] 5)) (w.heap.size+1) (some ⟨w.heap.size,0,none⟩) (B8 [49]):=Sl.one w _ _
 have Tv:=ke (P:=Tryz.prog) (w.alloc (.cells #[.int .u8 49] 5)) 22 9 5 (by kernel_rfl) (by kernel_rfl) (by kernel_rfl) _ _ 1 [49] Ql
 simp only[adz,List.length_nil,Nat.zero_add] at Tv;have mY:Below w.heap.size w (w.alloc (.cells #[.int .u8 49] 5)):=(adl _ w).alloc (adi _) _
 have iH:=(hs.below mY).mono mY.size;obtain⟨D,hD⟩:∃D,D=(bs.dropWhile (·==49)).length:=⟨_,rfl⟩;have L9:=yU A c bs (w.alloc (.cells #[.int .u8 49] 5)) iH jT
 rw[←hD] at Tu L9⊢;have YS:=ab L9;clear hD L9 iH hs Ql jT;go_enter Tryz.func105,Tryz.ntmps105;go_wp2_with fail;refine YS.out.mono ?_;rintro e w' ⟨A',c',rfl,rfl⟩;go_wp2_with fail;go_ret;refine⟨?_,mY⟩;show Ending.returned (.int .i64 ((bs.length:Int)-(D:Int)))=_;rw[Int.ofNat_sub Tu]
end Go.Proofs.YtnlkdheaohocnaaGreatDoor
namespace Go.Proofs.YtnlkdheaohocnaaGreatDoor
def bE (t:Nat):Nat→Nat→List UInt8
 |0,_=>[]
 |fuel+1,c=>if c=0 then [] else UInt8.ofNat (c%t)::bE t fuel (c/t)
def pI (f t:Nat):List UInt8→Nat→List UInt8×Nat
 |[],c=>([],c)
 |x::xs,c=>(UInt8.ofNat ((c+x.toNat*f)%t)::(pI f t xs ((c+x.toNat*f)/t)).1,(pI f t xs ((c+x.toNat*f)/t)).2)
def dx (f t:Nat) (xs:List UInt8) (c:Nat):List UInt8:=(pI f t xs c).1++bE t (pI f t xs c).2 (pI f t xs c).2
def dk (f t:Nat) (l:List UInt8):List UInt8:=l.foldl (fun out d=>dx f t out d.toNat) []
theorem mO (f t:Nat) (l:List UInt8) (d:UInt8):dk f t (l++[d])=dx f t (dk f t l) d.toNat:=by simp[dk]
theorem BI (t:Nat) (ht:2≤t):∀(m n c:Nat),c≤m→c≤n→bE t m c=bE t n c:=by
 intro m
 induction m with
 |zero=>intro n c h1 h2;cases n with
  |zero=>rfl
  |succ n=>simp[bE,show c=0 by omega]
 |succ m ih=>
  intro n c h1 h2
  by_cases hc:c=0
  · subst hc;cases n<;>simp[bE]
  cases n with
  |zero=>omega
  |succ n=>
   simp only[bE,hc,if_false];have:c/t<c:=Nat.div_lt_self (by omega) (by omega);rw[ih n (c/t) (by omega) (by omega)]
theorem dy (t c:Nat) (ht:2≤t) (hc:0<c):bE t c c=UInt8.ofNat (c%t)::bE t (c/t) (c/t):=by
 obtain⟨m,rfl⟩:∃m,c=m+1:=⟨c-1,by omega⟩;simp only[bE,Nat.add_eq_zero_iff,Nat.one_ne_zero,and_false,if_false];have:(m+1)/t<m+1:=Nat.div_lt_self (by omega) (by omega);rw[BI t ht m ((m+1)/t) _ (by omega) (adi _)]
theorem BJ (t:Nat):bE t 0 0=[]:=rfl
theorem Ef (t:Nat) (ht:2≤t):∀(k c:Nat),c<2^k→(bE t c c).length≤k:=by
 intro k
 induction k with
 |zero=>intro c hc;simp at hc;subst hc;simp[bE]
 |succ k ih=>
  intro c hc
  by_cases h0:c=0
  · subst h0;simp[bE]
  rw[dy t c ht (by omega)];have h1:c/t≤c/2:=Nat.div_le_div_left ht (by omega);have h2:c/2<2^k:=by rw[Nat.pow_succ] at hc;omega
  have:=ih (c/t) (by omega);simp;omega
theorem uN (f t:Nat):∀(xs:List UInt8) (y:UInt8) (c:Nat),
 pI f t (xs++[y]) c=((pI f t xs c).1++[UInt8.ofNat (((pI f t xs c).2+y.toNat*f)%t)],((pI f t xs c).2+y.toNat*f)/t)
 |[],y,c=>by simp[pI]
 |x::xs,y,c=>by simp only[adh,pI,uN f t xs y]
theorem tA (f t:Nat):∀(xs:List UInt8) (c:Nat),(pI f t xs c).1.length=xs.length
 |[],c=>rfl
 |x::xs,c=>by simp[pI,tA f t xs]
theorem Ma (f t:Nat) (hf:f≤256) (ht:2≤t):∀(xs:List UInt8) (c:Nat),c≤65536→(pI f t xs c).2≤65536
 |[],c,h=>h
 |x::xs,c,h=>by
  simp only[pI];refine Ma f t hf ht xs _ ?_;have hx:=x.toNat_lt;have h1:x.toNat*f≤255*256:=Nat.mul_le_mul (by omega) hf;have h2:(c+x.toNat*f)/t≤(c+x.toNat*f)/2:=Nat.div_le_div_left ht (by omega);omega
theorem qy (f t:Nat) (hf:f≤256) (ht:2≤t) (xs:List UInt8) (c:Nat) (hc:c≤65536):(dx f t xs c).length≤xs.length+17:=by
 unfold dx;have h1:=Ma f t hf ht xs c hc;have h2:=Ef t ht 17 (pI f t xs c).2 (by omega);rw[adv,tA];omega
theorem rQ (f t:Nat) (hf:f≤256) (ht:2≤t) (l:List UInt8):(dk f t l).length≤17*l.length:=by
 have:∀(l:List UInt8) (xs:List UInt8),(l.foldl (fun out d=>dx f t out d.toNat) xs).length≤xs.length+17*l.length:=by
  intro l
  induction l with
  |nil=>intro xs;simp
  |cons d l ih=>
   intro xs;have h1:=ih (dx f t xs d.toNat);have h2:=qy f t hf ht xs d.toNat (by have:=d.toNat_lt;omega);simp only[List.foldl_cons,adz];omega
 unfold dk;simpa using this l []
def bA:List UInt8:=[49,50,51,52,53,54,55,56,57,65,66,67,68,69,70,71,72,74,75,76,77,78,80,81,82,83,84,85,86,87,88,89,90,97,98,99,100,101,102,103,104,105,106,107,109,110,111,112,113,114,115,116,117,118,119,120,121,122]
def ew (d:UInt8):UInt8:=bA.getD d.toNat 0
theorem qz (d:UInt8) (h:d.toNat<(⟨bA.toArray⟩:ByteArray).size):(⟨bA.toArray⟩:ByteArray)[d.toNat]=ew d:=by
 have h':d.toNat<bA.length:=h;show bA.toArray[d.toNat]'(by simpa using h')=_
 simp[ew,h']
def lz:List UInt8→Nat
 |[]=>0
 |b::bs=>if b=0 then lz bs+1 else 0
theorem QS:∀(bs:List UInt8) (k:Nat) (_:k≤bs.length) (_:∀j (h:j<bs.length),j<k→bs[j]=0) (_:∀h:k<bs.length,bs[k]≠0),lz bs=k
 |[],k,hk,_,_=>by simp at hk;subst hk;rfl
 |b::bs,0,_,_,hn=>by have:=hn (by simp);simp at this;simp[lz,this]
 |b::bs,k+1,hk,hz,hn=>by
  have h0:b=0:=hz 0 (by simp) (by omega);have:=QS bs k (by simpa using hk) (fun j h hj=>by have:=hz (j+1) (by simpa using h) (by omega);simpa using this) (fun h=>by have:=hn (by simpa using h);simpa using this);simp[lz,h0,this]
theorem rS (t:Nat) (ht:0<t) (pd:t≤256):∀(n c:Nat),∀d∈bE t n c,d.toNat<t
 |0,c=>by simp[bE]
 |n+1,c=>by
  intro d hd;unfold bE at hd;split at hd
  · simp at hd
  simp only[List.mem_cons] at hd;rcases hd with rfl|hd
  · have:=Nat.mod_lt c ht
    simp;rw[adu (by omega)];omega
  exact rS t ht pd n _ d hd
theorem Mb (f t:Nat) (ht:0<t) (pd:t≤256):∀(xs:List UInt8) (c:Nat),∀d∈(pI f t xs c).1,d.toNat<t
 |[],c=>by simp[pI]
 |x::xs,c=>by
  intro d hd;simp only[pI,List.mem_cons] at hd;rcases hd with rfl|hd
  · have:=Nat.mod_lt (c+x.toNat*f) ht
    simp;rw[adu (by omega)];omega
  exact Mb f t ht pd xs _ d hd
theorem BK (f t:Nat) (ht:0<t) (pd:t≤256) (xs:List UInt8) (c:Nat):∀d∈dx f t xs c,d.toNat<t:=by
 intro d hd;simp only[dx,List.mem_append] at hd;rcases hd with hd|hd
 · exact Mb f t ht pd _ _ d hd
 exact rS t ht pd _ _ d hd
theorem uO (f t:Nat) (ht:0<t) (pd:t≤256) (l:List UInt8):∀d∈dk f t l,d.toNat<t:=by
 rcases List.eq_nil_or_concat l with rfl|⟨l',d0,rfl⟩
 · simp[dk]
 rw[List.concat_eq_append,mO];exact BK f t ht pd _ _
def lH (bs:List UInt8):List UInt8:=List.replicate (lz bs) 49++(dk 256 58 bs).reverse.map ew
end Go.Proofs.YtnlkdheaohocnaaGreatDoor
namespace Go.Proofs.YtnlkdheaohocnaaGreatDoor
open Go.RowKit Go.Shelf
attribute [local go_sem] Oper.semAt_some
theorem Pn (F:Fence) (hF:∀k,F.fn k) (nf:F.round=none) (n:Nat) (hn:3≤n) (f t:Nat) (hf:1≤f) (Tw:f≤256) (ht:2≤t) (pd:t≤256) (A:Option Addr) (cap:Nat) (bs:List UInt8) (hl:bs.length≤4096) (w:World) (hs:Sl w w.heap.size A (B8 bs)):
 CallsIn F n Tryz.prog 107 #[.slice A bs.length cap,.int .i64 f,.int .i64 t] w fun e W'=>∃v,e=.returned v∧Ow W' w.heap.size 5 v (B8 (dk f t bs.reverse))∧Below w.heap.size w W':=by
 have h1:1≤n:=by omega
 obtain⟨i0,hi,jh,kV,mo⟩:=info_parts tf;refine callsIn_of_wp_marks Tryz.func107 rfl (hF _) ?_ nf;simp only[Tryz.ntmps107,List.size_toArray,adz,List.length_nil,Nat.reduceAdd,Nat.reduceSub,Array.replicate_succ,Array.replicate_zero,List.push_toArray,List.append_toArray,adj,adh]
 gi_wp2_with (gi_at_call 109;refine(yh F hF nf _ _ _ _ _).mono ?_;rintro e w' ⟨rfl,rfl⟩)
 obtain⟨B,hB⟩:=ae w.heap.size;rw[←hB] at hs⊢;obtain⟨W0,bD⟩:∃W0,W0=(((w.alloc (Obj.cells #[Value.int IntKind.i64 f] 3)).alloc (Obj.cells #[Value.int IntKind.i64 t] 3)).alloc (Obj.cells #[Value.slice none 0 0] 22)).alloc (Obj.cells #[Value.slice A bs.length cap] 22):=⟨_,rfl⟩
 rw[←bD];have b0:Boxed W0 B 3 (.int .i64 f):=by rw[bD,hB];exact(((Boxed.new w _ _).alloc _).alloc _).alloc _
 have b1:Boxed W0 (B+1) 3 (.int .i64 t):=by rw[bD,hB];have:=(((Boxed.new (w.alloc (Obj.cells #[Value.int IntKind.i64 f] 3)) 3 (.int .i64 t)).alloc (Obj.cells #[Value.slice none 0 0] 22)).alloc (Obj.cells #[Value.slice A bs.length cap] 22));simpa using this
 have b2:Boxed W0 (B+2) 22 (.slice none 0 0):=by rw[bD,hB];have:=(Boxed.new ((w.alloc (Obj.cells #[Value.int IntKind.i64 f] 3)).alloc (Obj.cells #[Value.int IntKind.i64 t] 3)) 22 (.slice none 0 0)).alloc (Obj.cells #[Value.slice A bs.length cap] 22);simpa using this
 have b3:Boxed W0 (B+3) 22 (.slice A bs.length cap):=by rw[bD,hB];have:=(Boxed.new (((w.alloc (Obj.cells #[Value.int IntKind.i64 f] 3)).alloc (Obj.cells #[Value.int IntKind.i64 t] 3)).alloc (Obj.cells #[Value.slice none 0 0] 22)) 22 (.slice A bs.length cap));simpa using this
 have eD:W0.heap.size=B+4:=by rw[bD,hB];simp
 have Of:Below B w W0:=by rw[bD,hB];exact((((adl _ w).alloc (adi _) _).alloc (by simp) _).alloc (by simp;omega) _).alloc (by simp;omega) _
 have HB:=ab hB;clear bD hB
 refine wpIn_rangeFunc_ownG nf h1 (gf:=126) (lb:=#[.pointer (some ⟨B+3,0,none⟩)]) rfl (hF _) (enters_of Tryz.func126 (by kernel_rfl) rfl)
  (DD F hF nf (n-1) (by omega) (B+3) B A cap bs (by omega) W0 (by omega) (by omega) b3.cell (hs.below Of)) pS (Fx (by omega) (by omega)) (adl _ _) (fun _=>rfl)
  (fun pre W=>(Boxed W B 3 (.int .i64 f)∧Boxed W (B+1) 3 (.int .i64 t)∧∃v,Boxed W (B+2) 22 v∧Ow W (B+4) 5 v (B8 (dk f t (pre.map (·.2)))))∧Below B W0 W)
  (fun _ _ _=>False)
  (OwnFrom.and (Go.Own.from (fun s A B row hs hg hr=>⟨eK hs.1 hg hr,eK hs.2.1 hg hr,let ⟨v,hv,ho⟩:=hs.2.2;⟨v,eK hv hg hr,ho.others hg hr⟩⟩) _) (ownFrom_below (by omega) (by omega)))
  (fun _ _ _ _ _ hs _ _=>hs)
  ⟨⟨b0,b1,_,b2,Ow.nil_ _ _ _ _⟩,adl _ _⟩
  (fun x=>{ tmps:=#[.slice A bs.length cap,.int .i64 f,.int .i64 t,undef,.pointer (some ⟨B,0,none⟩),.pointer (some ⟨B+1,0,none⟩),.slice none 0 0,.pointer (some ⟨B+2,0,none⟩),undef,.int .u8 (x.2.toNat:Int),undef,undef,undef,.slice A bs.length cap,.func (.func 126) #[] #[.pointer (some ⟨B+3,0,none⟩)],.int .i64 (x.1:Int),.int .u8 (x.2.toNat:Int),undef,undef,undef,undef,undef,undef,undef,undef,undef,undef,undef,undef,undef,undef,undef,undef,undef,undef,undef,undef,undef,undef,undef,undef,undef,undef,undef,undef,undef,undef,undef,undef,undef,undef,undef,undef,undef,undef,undef],defers:=[] }) ?assign ?body ?done ?stop
 case assign=>
  intro l x W K hK
  gi_wp2
  exact hK
 case body=>
  have Sg:B+4≤W0.heap.size:=by omega
  clear hs b0 b1 b2 b3 Of eD;rintro l pre x W ⟨⟨h0,h1,v,h2,ho⟩,pr⟩ sM;have hd:1≤n-1-1:=by omega
  have c0:=h0.cell;have c1:=h1.cell;have c2:=h2.cell;have f2:=h2.frozen;obtain⟨xs,yi⟩:=ae (dk f t (pre.map (·.2)));rw[←yi] at ho;have Vp:xs.length≤69632:=by rw[yi];have:=rQ f t Tw ht (pre.map (·.2));simp at this;omega
  have Hxs:=ab yi;clear yi;obtain⟨Av,cv,rfl⟩:∃Av cv,v=.slice Av xs.length cv:=by obtain⟨Av,cv,e,_⟩:=ho;exact⟨Av,cv,by simpa using e⟩
  have yf:=x.2.toNat_lt;have J0:x.2.toNat≤65536:=by omega
  obtain⟨d,QT⟩:=ae x.2.toNat;rw[←QT] at J0;have Hd:=ab QT
  gi_wp2
  rw[←QT];clear QT yf
  gi_loopw [10,21] (fun cr i wr=>∃k c:Nat,k≤xs.length∧i=.int .i64 k∧cr=.int .i64 c∧c≤65536∧Hid (c=(pI f t (xs.take k) d).2)∧Boxed wr B 3 (.int .i64 f)∧Boxed wr (B+1) 3 (.int .i64 t)∧
   Boxed wr (B+2) 22 (.slice Av xs.length cv)∧Ow wr (B+4) 5 (.slice Av xs.length cv) (B8 ((pI f t (xs.take k) d).1++xs.drop k))∧Below B W0 wr∧Keep B (B+3) W wr∧KeepsOthers W wr) (fun _ i _=>xs.length-(intOf i).toNat)
  case atStart=>exact⟨0,d,adF _,rfl,rfl,J0,rfl,h0,h1,h2,by simpa [pI] using ho,pr,Keep.refl _ _ _,KeepsOthers.refl _⟩
  case round=>
   clear h0 h1 h2 c0 c1 c2 f2 ho pr;obtain⟨k,c,hk,rfl,rfl,hc,Hc,h0,h1,h2,ho,pr,VS,VT⟩:=hrel;have c0:=h0.cell;have c1:=h1.cell;have c2:=h2.cell;have f2:=h2.frozen
   by_cases aV:k<xs.length
   · obtain⟨m,hm⟩:∃m,m=(pI f t (xs.take k) d).1:=⟨_,rfl⟩
     have Po:m.length=k:=by rw[hm,tA,adq];omega
     rw[←hm] at ho;have Hm:=ab hm;clear hm;obtain⟨g,rfl,hg,bG,aS,hfr⟩:=ho.at_ (j:=k) (by simp;omega)
     have hv:(B8 (m++xs.drop k))[k]'(by simp;omega)=.int .u8 (xs[k].toNat:Int):=by
      rw[ed,List.getElem_append_right (by omega)];simp[Po]
     rw[hv] at aS;have oG:=xs[k].toNat_lt;have Hml:=ab Po;clear hv Po;clear bG;have b1:0≤(xs[k].toNat:Int)*(f:Int):=by exact Int.mul_nonneg (by omega) (by omega)
     have b2:(xs[k].toNat:Int)*(f:Int)≤65280:=by
      have:xs[k].toNat*f≤255*256:=Nat.mul_le_mul (by omega) Tw;have h:((xs[k].toNat*f:Nat):Int)≤65280:=by omega
      rwa [Int.natCast_mul] at h
     gi_wp2
     have bx:Tryz.prog.follows .mixedOrders=true:=by kernel_rfl
     refine dq [(0,1),(1,0),(2,0),(3,1),(4,0),(5,0),(6,0),(7,2)] 7 (fun _=>hF _) bx (by kernel_rfl) (by intro c a d v w h;cases d<;>exact h) ?_
     repeat ((first|(refine ao rfl (fun K hK=>?_))|(refine aD rfl (fun K hK=>?_)));go_simp;(first|(refine hK _ ?_)|(simp only[IntWalk.iteOmega];go_simp;refine hK _ ?_) );clear hK K;(try go_bits))
     refine bW rfl rfl (fun K hK=>?_)
     gi_wp2
     refine⟨.inl (by decide),aB ?_⟩
     gi_wp2
     have Bw:B≤(⟨g,k,none⟩:Addr).block:=by show B≤g;omega
     refine⟨⟨k+1,(c+xs[k].toNat*f)/t,by omega,by go_num,by simp,?_,?_,qW h0 (p:=⟨g,k,none⟩) (by show B≠g;omega) _,qW h1 (p:=⟨g,k,none⟩) (by show B+1≠g;omega) _,qW h2 (p:=⟨g,k,none⟩) (by show B+2≠g;omega) _,?_,pr.setCell Bw _ |>.drew,pS VS ⟨((adl B wr).setCell Bw _).drew,Below.heap_setCell wr ⟨g,k,none⟩ _ (B+3) (by show B+3≠g;omega)⟩,VT.trans ((KeepsOthers.setCell _ _ _).trans (KeepsOthers.drew _))⟩,by simp[intOf];omega⟩
     · have:=Nat.div_le_div_left (a:=c+xs[k].toNat*f) ht (by omega)
       omega
     · show _=_
       rw[adK aV,uN,←Hc.out]
     have hs:=ho.store k (by have:=ho.len;simp at this;omega) (.int .u8 ((((c:Int)+(xs[k].toNat:Int)*(f:Int))%(t:Int))%256))
     have e:(B8 (m++xs.drop k)).set k (.int .u8 ((((c:Int)+(xs[k].toNat:Int)*(f:Int))%(t:Int))%256))=B8 ((pI f t (xs.take (k+1)) d).1++xs.drop (k+1)):=by
      rw[adK aV,uN,←Hc.out,←Hm.out];have hd:xs.drop k=xs[k]::xs.drop (k+1):=by rw[List.getElem_cons_drop]
      rw[hd];simp only[B8,List.map_append,List.map_cons];rw[List.set_append_right _ _ (by simp[Hml.out])];simp[Hml.out]
     rw[e] at hs;exact hs
   obtain rfl:k=xs.length:=by omega
   rw[List.take_length,List.drop_length,List.append_nil] at ho;rw[List.take_length] at Hc
   gi_wp2
   obtain⟨fin,lW⟩:=ae (dx f t xs d);have qi:fin.length≤69649:=by rw[lW];have:=qy f t Tw ht xs d J0;omega
   have p7:=ab lW;clear lW
   gi_loopw [10] (fun cr wq=>∃(c:Nat) (v:Value) (ys:List UInt8),cr=.int .i64 c∧c≤65536∧Hid (ys++bE t c c=fin)∧Boxed wq B 3 (.int .i64 f)∧Boxed wq (B+1) 3 (.int .i64 t)∧
    Boxed wq (B+2) 22 v∧Ow wq (B+4) 5 v (B8 ys)∧Below B W0 wq∧Keep B (B+3) W wq∧KeepsOthers W wq) (fun cr _=>(intOf cr).toNat)
   case atStart=>exact⟨c,_,_,rfl,hc,by rw[p7.out];unfold dx;rw[←Hc.out];rfl,h0,h1,h2,ho,pr,VS,VT⟩
   case round=>
    clear h0 h1 h2 c0 c1 c2 f2 ho pr VS VT Hc hc hk aV;obtain⟨c,v,ys,rfl,hc,hfe,h0,h1,h2,ho,pr,VS,VT⟩:=hrel;have hyl:ys.length≤69649:=by have:=congrArg List.length hfe.out;simp at this;omega
    have c1:=h1.cell;have c2:=h2.cell;obtain⟨Ay,cy,rfl⟩:∃Ay cy,v=.slice Ay ys.length cy:=by obtain⟨Ay,cy,e,_⟩:=ho;exact⟨Ay,cy,by simpa using e⟩
    by_cases lP:0<c
    · have bx:Tryz.prog.follows .mixedOrders=true:=by kernel_rfl
      have bN:=ho.row_ne_box h2 (by decide);have Eg:=ho.row_ne_box h0 (by decide);have DJ:=ho.row_ne_box h1 (by decide);have bG:=ho.row;have hq0:(0:Int)≤(c:Int)/(t:Int):=Int.ediv_nonneg (by omega) (by omega);have J1:(c:Int)/(t:Int)≤65536:=by have:=Int.ediv_le_self (a:=(c:Int)) (t:Int) (by omega);omega
      gi_wp2
      refine dq [(0,1),(1,0),(2,1),(3,0),(4,0),(5,2),(6,2),(7,2)] 6 (fun _=>hF _) bx (by kernel_rfl) (by intro c a d v w h;cases d<;>exact h) ?_
      repeat ((first|(refine ao rfl (fun K hK=>?_))|(refine aD rfl (fun K hK=>?_)));go_simp;(first|(refine hK _ ?_)|(simp only[IntWalk.iteOmega];go_simp;refine hK _ ?_) );clear hK K;(try go_bits))
      refine bW rfl rfl (fun K hK=>?_)
      gi_wp2
      refine⟨.inr (iJ _ _),?_⟩;refine bW rfl rfl (fun K hK=>?_);refine kf (F:=F.inRound l) (v:=.slice Ay ys.length cy) (m:=1) (c:=1) (fun _=>hF _) lC (.tmp 48) (.tmp 53) rfl rfl (ho.alloc _).drew rfl (Sl.one wr _ _).drew rfl ?_ ?_ ?_ ?_ ?_
      · intro u hu;simp at hu;subst hu;rfl
      · simp[maxLen];omega
      · simp;omega
      · have:=pr.size;simp;omega
      intro v' w1 pf kq kS;have zK:∀g,aY (.slice Ay ys.length cy)=some g→B+4≤g:=fun g hg=>by have:=bG g hg;omega
      have hn1:∀b,b<wr.heap.size→(∀g,aY (.slice Ay ys.length cy)=some g→g≠b)→some b≠aY (.slice Ay ys.length cy):=fun b _ h e=>h b e.symm rfl
      have h0':Boxed w1 B 3 (.int .i64 f):=(ib (h0.alloc _)).kept kq (hn1 _ h0.lt Eg);have h1':Boxed w1 (B+1) 3 (.int .i64 t):=(ib (h1.alloc _)).kept kq (hn1 _ h1.lt DJ);have xh:=Boxed.kept (ib (h2.alloc _)) kq (hn1 _ h2.lt bN);have c1':=h1'.cell;have c2':=xh.cell;have f2':=xh.frozen;have k1:KeepsOthers wr w1:=(KeepsOthers.alloc wr _).trans ((KeepsOthers.drew _).trans ((ho.alloc _).drew.keepsOthers kq rfl));have AD:=pr.size;have bl:Below B wr w1:=((adl B wr).alloc (by omega) _).drew.grown kq (by simp;omega) (fun g hg=>by have:=zK g hg;omega)
      have oU:∀u,Ow (w1.setCell ⟨B+2,0,none⟩ u) (B+4) 5 v' (B8 (ys++[UInt8.ofNat (c%t)])):=fun u=>by
       rw[bp,Rz];have e:((c:Int)%(t:Int)%256)=((UInt8.ofNat (c%t)).toNat:Int):=by simp
       rw[←e];exact pf.setCell (fun g hg=>by have:=pf.row g hg;show B+2≠g;omega) u
      obtain⟨IH,II,rfl⟩:∃IH II,v'=.slice IH (ys.length+1) II:=by obtain⟨A',c',e,_⟩:=pf;exact⟨A',c',by simpa using e⟩
      refine hK _ _ ⟨.inl (by decide),?_⟩;clear hK K;refine bW rfl rfl (fun K hK=>?_)
      gi_wp2
      refine⟨.inl (by decide),aB ?_⟩
      gi_wp2
      refine⟨⟨c/t,.slice IH (ys.length+1) II,ys++[UInt8.ofNat (c%t)],by simp,?_,?_,h0'.other (by omega) _,h1'.other (by omega) _,?_,?_,?_,?_,?_⟩,?_⟩
      · exact Nat.le_trans (Nat.div_le_self c t) hc
      · show _=_
        rw[←hfe.out,dy t c ht lP];simp
      · simpa using xh.set _
      · simpa using oU _
      · exact(pr.trans bl).setCell (p:=⟨B+2,0,none⟩) (by show B≤B+2;omega) _
      · exact pS VS ⟨bl.setCell (p:=⟨B+2,0,none⟩) (by show B≤B+2;omega) _,(Below.heap_setCell w1 ⟨B+2,0,none⟩ _ (B+3) (by show B+3≠B+2;omega)).trans ((kq.block (B+3) (by simp;omega) (fun e=>by have:=zK _ e.symm;omega)).trans (Below.heap_alloc wr _ (B+3) (by omega)))⟩
      · exact VT.trans (k1.trans (KeepsOthers.setCell _ _ _))
      have:c/t<c:=Nat.div_lt_self lP (by omega);simp[intOf];omega
    obtain rfl:c=0:=by omega
    gi_wp2
    refine⟨VT.from _,VS,⟨h0,h1,_,h2,?_⟩,pr⟩
    have e:ys=dk f t ((pre++[x]).map (·.2)):=by
     have:=hfe.out;rw[BJ,List.append_nil,p7.out,Hxs.out,Hd.out] at this;rw[this];simp[mO]
    rw[←e];exact ho
 case done=>
  rintro D ys W hD rfl ⟨⟨_,_,v,h2,ho⟩,hB⟩ hK;have c2:=h2.cell
  gi_wp2
  refine⟨by simp,.inl ⟨_,_,rfl,run_takeDeferred hK,?_⟩⟩;refine⟨_,results_tmp rfl _ _ _,v,rfl,?_,?_⟩
  · rw[rb] at ho
    rw[←HB.out];exact(ho.others (grownBy_putObj' _ D (.deferred none)) (fun r e=>by cases e;exact⟨_,hK,rfl⟩)).mono (by omega)
  rw[←HB.out];exact Of.trans (hB.trans (belowK_b (w:=W0) (by omega) W D _ _ hD hK rfl rfl))
 case stop=>
  rintro D c pre W _ _ h _;exact h.elim
theorem uP (f t:Nat) (hf:1≤f) (Tw:f≤256) (ht:2≤t) (pd:t≤256) (A:Option Addr) (cap:Nat) (bs:List UInt8) (hl:bs.length≤4096) (w:World) (hs:Sl w w.heap.size A (B8 bs)):
 Calls Tryz.prog 107 #[.slice A bs.length cap,.int .i64 f,.int .i64 t] w fun e W'=>∃v,e=.returned v∧Ow W' w.heap.size 5 v (B8 (dk f t bs.reverse))∧Below w.heap.size w W':=
 (callsIn_wide (n:=3)).1 (Pn Fence.wide (fun _=>trivial) rfl 3 (adi _) f t hf Tw ht pd A cap bs hl w hs)
end Go.Proofs.YtnlkdheaohocnaaGreatDoor
namespace Go.Proofs.YtnlkdheaohocnaaGreatDoor
theorem Mm (f t c x:Nat) (hf:1≤f) (ht:1≤t) (hc:c<f) (hx:x<t):(c+x*f)/t<f:=by
 rw[Nat.div_lt_iff_lt_mul (by omega)];have h1:x*f≤(t-1)*f:=Nat.mul_le_mul_right f (by omega);have h2:(t-1)*f+f=t*f:=by rw[←Nat.succ_mul];congr 1;omega
 have h3:f*t=t*f:=Nat.mul_comm _ _;omega
theorem xG (f t:Nat) (hf:1≤f) (ht:1≤t):∀(xs:List UInt8) (c:Nat),(∀x∈xs,x.toNat<t)→c<f→(pI f t xs c).2<f
 |[],c,_,h=>h
 |x::xs,c,hx,h=>by
  simp only[pI];exact xG f t hf ht xs _ (fun y hy=>hx y (by simp[hy])) (Mm f t c x.toNat hf ht h (hx x (by simp)))
theorem Em (t:Nat) (ht:2≤t) (c:Nat) (hc:c<t):(bE t c c).length≤1:=by
 by_cases h:c=0
 · subst h;simp[bE]
 rw[dy t c ht (by omega),Nat.div_eq_of_lt hc];simp[bE]
theorem uS (f t:Nat) (hf:1≤f) (hft:f≤t) (ht:2≤t) (pd:t≤256) (l:List UInt8) (hl:∀d∈l,d.toNat<f):(dk f t l).length≤l.length:=by
 induction hn:l.length generalizing l with
 |zero=>rw[List.length_eq_zero_iff.1 hn];simp[dk]
 |succ n ih=>
  rcases List.eq_nil_or_concat l with rfl|⟨l',d0,rfl⟩
  · simp[dk]
  rw[List.concat_eq_append] at hl hn⊢;have ih:=ih l' (fun d hd=>hl d (by simp[hd])) (by simpa using hn);rw[mO,dx,adv,tA];have h1:=xG f t hf (by omega) (dk f t l') d0.toNat (uO f t (by omega) pd l') (hl d0 (by simp));have h2:=Em t ht _ (show (pI f t (dk f t l') d0.toNat).2<t by omega);omega
def cQ (f:Nat) (l:List UInt8):Nat:=l.foldl (fun v d=>v*f+d.toNat) 0
theorem lr (f:Nat) (l:List UInt8) (d:UInt8):cQ f (l++[d])=cQ f l*f+d.toNat:=by simp[cQ]
theorem y8 (f t V c:Nat) (ht:0<t):(V*f+c)%t=(c+V%t*f)%t∧(V*f+c)/t=V/t*f+(c+V%t*f)/t:=by
 have h:V*f+c=t*(V/t*f)+(c+V%t*f):=by
  have h1:=Nat.div_add_mod V t;have h2:(t*(V/t)+V%t)*f=V*f:=by rw[h1]
  rw[Nat.add_mul,Nat.mul_assoc] at h2;omega
 rw[h];exact⟨by rw[Nat.mul_add_mod],by rw[Nat.mul_add_div ht]⟩
theorem Cc (f t:Nat) (hf:1≤f) (ht:2≤t) (pd:t≤256):∀(n V c:Nat),V≤n→dx f t (bE t V V) c=bE t (V*f+c) (V*f+c):=by
 intro n
 induction n with
 |zero=>
  intro V c hV;obtain rfl:V=0:=by omega
  simp[dx,bE,pI]
 |succ n ih=>
  intro V c hV
  by_cases h0:V=0
  · subst h0;simp[dx,bE,pI]
  have hp:0<V*f+c:=by have:0<V*f:=Nat.mul_pos (by omega) (by omega);omega
  rw[dy t V ht (by omega),dy t (V*f+c) ht hp];have aV:V/t<V:=Nat.div_lt_self (by omega) (by omega);have hm:=Nat.mod_lt V (show 0<t by omega);have hx:(UInt8.ofNat (V%t)).toNat=V%t:=by rw[UInt8.toNat_ofNat',adu (by omega)]
  obtain⟨h1,h2⟩:=y8 f t V c (by omega);have:=ih (V/t) ((c+V%t*f)/t) (by omega);unfold dx at this⊢;simp only[pI,hx,adh];rw[this,←h2,←h1]
theorem mT (f t:Nat) (hf:1≤f) (ht:2≤t) (pd:t≤256) (l:List UInt8):dk f t l=bE t (cQ f l) (cQ f l):=by
 induction hn:l.length generalizing l with
 |zero=>rw[List.length_eq_zero_iff.1 hn];simp[dk,cQ,bE]
 |succ n ih=>
  rcases List.eq_nil_or_concat l with rfl|⟨l',d0,rfl⟩
  · simp at hn
  rw[List.concat_eq_append] at hn⊢;rw[mO,lr,ih l' (by simpa using hn),Cc f t hf ht pd _ _ _ (adi _)]
theorem wF (t:Nat) (ht:2≤t) (l:List UInt8) (hl:∀d∈l,d.toNat<t) (h0:∀d,l.head?=some d→d.toNat≠0):bE t (cQ t l) (cQ t l)=l.reverse∧(l≠[]→0<cQ t l):=by
 induction hn:l.length generalizing l with
 |zero=>rw[List.length_eq_zero_iff.1 hn];simp[cQ,bE]
 |succ n ih=>
  rcases List.eq_nil_or_concat l with rfl|⟨l',d0,rfl⟩
  · simp at hn
  rw[List.concat_eq_append] at hn hl h0⊢;have hd:=hl d0 (by simp)
  by_cases he:l'=[]
  · subst he
    have SP:=h0 d0 (by simp);have hv:cQ t ([]++[d0])=d0.toNat:=by simp[cQ]
    refine⟨?_,fun _=>by rw[hv];omega⟩;rw[hv,dy t _ ht (by omega),Nat.div_eq_of_lt hd,adu hd];simp[bE]
  have hp:=ih l' (fun d h=>hl d (by simp[h])) (fun d h=>h0 d (by cases l' with|nil=>simp at he|cons x xs=>simpa using h)) (by simpa using hn);have abA:=hp.2 he;have hm:0<cQ t l'*t:=Nat.mul_pos abA (by omega);rw[lr];refine⟨?_,fun _=>by omega⟩
  rw[dy t _ ht (by omega),show (cQ t l'*t+d0.toNat)%t=d0.toNat by rw[Nat.mul_add_mod_self_right,adu hd],
   show (cQ t l'*t+d0.toNat)/t=cQ t l' by rw[Nat.mul_comm,Nat.mul_add_div (by omega),Nat.div_eq_of_lt hd];rfl,hp.1]
  simp
theorem wG (t:Nat) (ht:2≤t) (pd:t≤256):∀(n V:Nat),V≤n→cQ t (bE t V V).reverse=V:=by
 intro n
 induction n with
 |zero=>
  intro V hV;obtain rfl:V=0:=by omega
  rfl
 |succ n ih=>
  intro V hV
  by_cases h0:V=0
  · subst h0;rfl
  have aV:V/t<V:=Nat.div_lt_self (by omega) (by omega);have hm:=Nat.mod_lt V (show 0<t by omega);rw[dy t V ht (by omega),List.reverse_cons,lr,ih (V/t) (by omega),UInt8.toNat_ofNat',adu (show V%t<2^8 by omega)];have:=Nat.div_add_mod V t;rw[Nat.mul_comm];exact this
theorem ED (t:Nat) (ht:2≤t) (pd:t≤256):∀(n V:Nat),V≤n→∀d,(bE t V V).reverse.head?=some d→d.toNat≠0:=by
 intro n
 induction n with
 |zero=>
  intro V hV d hd;obtain rfl:V=0:=by omega
  simp[bE] at hd
 |succ n ih=>
  intro V hV d hd
  by_cases h0:V=0
  · subst h0;simp[bE] at hd
  have aV:V/t<V:=Nat.div_lt_self (by omega) (by omega);have hm:=Nat.mod_lt V (show 0<t by omega);rw[dy t V ht (by omega),List.reverse_cons] at hd
  by_cases hq:V/t=0
  · rw[hq] at hd
    simp only[bE,List.reverse_nil,adj,List.head?_cons,Option.some.injEq] at hd;have hVm:V%t=V:=adu ((Nat.div_eq_zero_iff_lt (by omega)).1 hq);rw[←hd,UInt8.toNat_ofNat',adu (by omega)];omega
  refine ih (V/t) (by omega) d ?_
  cases ZD:(bE t (V/t) (V/t)).reverse with
  |nil=>
   have:=congrArg List.length ZD;rw[dy t _ ht (Nat.pos_of_ne_zero hq)] at this;simp at this
  |cons x xs=>rw[ZD] at hd;simpa using hd
theorem wH (t:Nat) (ht:2≤t) (pd:t≤256) (V:Nat):∀d∈bE t V V,d.toNat<t:=rS t (by omega) pd V V
end Go.Proofs.YtnlkdheaohocnaaGreatDoor
