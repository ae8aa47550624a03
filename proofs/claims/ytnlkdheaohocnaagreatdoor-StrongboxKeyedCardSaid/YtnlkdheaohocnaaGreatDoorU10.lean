/- Whoever walks down with the secret signs what whoever walks down without it verifies, and the text of either walks the same way (StrongboxKeyed). No condition. -/
import Derived.Test.YtnlkdheaohocnaaGreatDoorU1
import Derived.Test.YtnlkdheaohocnaaGreatDoorU4
import Derived.Test.YtnlkdheaohocnaaGreatDoorU5
import Derived.Lib.LazyBuf
import Derived.Test.YtnlkdheaohocnaaGreatDoorShelf
import Derived.Lib.MakeNoZero
import Derived.Lib.SlBuf
import Derived.Laws.CopyOwn
set_option maxRecDepth 1000000
set_option maxHeartbeats 16000000
set_option linter.unusedVariables false
set_option linter.unusedSimpArgs false
namespace Go.Proofs.YtnlkdheaohocnaaGreatDoor
open Go.RowKit
def rv (xs:List UInt8) (k:Nat):List UInt8:=(List.range xs.length).map fun m=>if m<k∨xs.length-k≤m then xs.getD (xs.length-1-m) 0 else xs.getD m 0
theorem nt (xs:List UInt8) (k:Nat):(rv xs k).length=xs.length:=by simp[rv]
theorem rh (xs:List UInt8) (k m:Nat) (h:m<(rv xs k).length):(rv xs k)[m]=if m<k∨xs.length-k≤m then xs.getD (xs.length-1-m) 0 else xs.getD m 0:=by simp[rv]
theorem Ox (xs:List UInt8):rv xs 0=xs:=by
 apply List.ext_getElem (by simp[rv]);intro i h1 h2;rw[rh,if_neg (by omega)];simp[h2]
theorem Sa (xs:List UInt8) (k:Nat) (h:xs.length≤2*k+1):rv xs k=xs.reverse:=by
 apply List.ext_getElem (by simp[rv]);intro i h1 h2;have hi:i<xs.length:=by simpa using h2
 rw[rh,List.getElem_reverse]
 by_cases hc:i<k∨xs.length-k≤i
 · rw[if_pos hc,List.getD_eq_getElem?_getD,adp (by omega)];rfl
 rw[if_neg hc,List.getD_eq_getElem?_getD,adp hi];have e:xs.length-1-i=i:=by omega
 simp only[e];rfl
theorem Oy (xs:List UInt8) (k:Nat) (h:k+1<xs.length-k):((rv xs k).set k (xs.getD (xs.length-1-k) 0)).set (xs.length-1-k) (xs.getD k 0)=rv xs (k+1):=by
 apply List.ext_getElem (by simp[rv]);intro i h1 h2;have hi:i<xs.length:=by simpa [rv] using h2
 rw[rh,List.getElem_set,List.getElem_set]
 by_cases e1:xs.length-1-k=i
 · subst e1;rw[if_pos rfl,if_pos (by omega)];congr 1;omega
 rw[if_neg e1]
 by_cases e2:k=i
 · subst e2;rw[if_pos rfl,if_pos (by omega)]
 rw[if_neg e2,rh]
 by_cases hc:i<k∨xs.length-k≤i
 · rw[if_pos hc,if_pos (by omega)]
 rw[if_neg hc,if_neg (by omega)]
theorem j4 (A:Option Addr) (c:Nat) (bs:List UInt8) (w:World) (hs:Sl w w.heap.size A (B8 bs)) (hl:bs.length≤1048576):
 Calls Tryz.prog 66 #[.slice A bs.length c] w fun e W'=>∃v,e=.returned v∧Ow W' w.heap.size 5 v (B8 bs)∧Below w.heap.size w W':=by
 have aay:=fun w=>Lib.run_eql_slice_nil (P:=Tryz.prog) w 22 5 A bs.length c 0 0 Tryz.underlying22
 by_cases hb:bs=[]
 · subst hb
   simp only[List.length_nil] at aay⊢;clear hl hs
   cases A with
   |none=>
    go_enter Tryz.func66,Tryz.ntmps66;go_wp2;go_ret;exact⟨_,rfl,Ow.nil_ _ _ _ _,adl _ _⟩
   |some ad=>
    go_enter Tryz.func66,Tryz.ntmps66;go_wp2_with (at_builtin;refine aX (m:=0) (c:=c) (base:=w.heap.size) (xs:=[]) (v:=.slice (some ⟨w.heap.size,0,none⟩) 0 0) (A:=some ad) (B:=w.heap.size) (news:=[]) lC rfl (.tmp 5) (.tmp 6) rfl rfl (Ow.nil_ _ _ _ _) rfl Sl.nil rfl (by simp) (by simp) (by simp) (by simp) ?_;intro v1 w1 pf kq kS);go_ret;exact⟨v1,rfl,pf,((adl _ w).alloc (adi _) _).grown kq (by simp) (by simp[aY])⟩
 have Hl:=ab hl;obtain⟨b,o,rfl,_⟩:=hs (by simpa using List.length_pos_iff.2 hb);clear hl hb;go_enter Tryz.func66,Tryz.ntmps66;go_wp2_with (at_builtin;refine aX (m:=bs.length) (c:=c) (base:=w.heap.size) (xs:=[]) (v:=.slice (some ⟨w.heap.size,0,none⟩) 0 0) (A:=some ⟨b,o,none⟩) (B:=w.heap.size) (news:=B8 bs) lC rfl (.tmp 5) (.tmp 6) rfl rfl (Ow.nil_ _ _ _ _) rfl (hs.alloc (adi _) _) (B8_length _) (aR _) (by have:=Hl.out;simp[maxLen];omega) (by have:=Hl.out;simp;omega) (by simp) ?_;intro v1 w1 pf kq kS);go_ret;exact⟨v1,rfl,by simpa using pf,((adl _ w).alloc (adi _) _).grown kq (by simp) (by simp[aY])⟩
theorem si (g o c:Nat) (l1 l3:List Value) (E:Nat) (bs:List UInt8) (w:World) (hh:w.heap[g]?=some (.cells (l1++B8 bs++l3).toArray E (0,0))) (ho:l1.length=o) (hl:bs.length≤4096):
 Calls Tryz.prog 118 #[.slice (some ⟨g,o,none⟩) bs.length c] w fun e W'=>e=.returned (.tuple #[])∧W'.heap[g]?=some (.cells (l1++B8 bs.reverse++l3).toArray E (0,0))∧w.grownBy W' (some g):=by
 have Ho:=ab ho;have Hh:=ab hh;clear ho hh;go_enter Tryz.func118,Tryz.ntmps118;go_wp2;go_loopw [2,3] (fun i j wr=>∃k:Nat,(2*k≤bs.length+1∧(0<k→2*k≤bs.length))∧i=.int .i64 k∧j=.int .i64 ((bs.length:Int)-1-(k:Int))∧wr.heap[g]?=some (.cells (l1++B8 (rv bs k)++l3).toArray E (0,0))∧w.grownBy wr (some g)) (fun i _ _=>bs.length+1-(intOf i).toNat)
 case atStart=>exact⟨0,by omega,rfl,by go_num,by rw[Ox];exact Hh.out,World.grownBy.refl _ _⟩
 case round=>
  obtain⟨k,hk,rfl,rfl,hh,hg⟩:=hrel
  by_cases aV:k+1<bs.length-k
  · obtain⟨m,hm⟩:∃m,m=bs.length-1-k:=⟨_,rfl⟩
    have Fy:m<bs.length:=by omega
    have hkm:k<m:=by omega
    have e1:(bs.length:Int)-1-(k:Int)=(m:Int):=by omega
    have ko:k<bs.length:=by omega
    have cell:∀j (hj:j<bs.length),wr.cell? ⟨g,o+j,none⟩=some (.int .u8 (((rv bs k)[j]'(by rw[nt];exact hj)).toNat:Int)):=fun j hj=>by
     rw[adn wr g (o+j) _ _ _ hh];have h1:=Ho.out;subst h1;simp[B8,adC,adG,nt,hj]
    have ck:=cell k ko;have cm:=cell m Fy;have fr:∀j,wr.frozen? ⟨g,o+j,none⟩=false:=fun j=>frozen_of_row wr g (o+j) _ _ hh
    have fk:=fr k;have fm:=fr m;rw[e1];have Hm:=ab hm;have Hh:=ab hh;clear cell fr hm e1 hh;have bx:Tryz.prog.follows .mixedOrders=true:=by kernel_rfl
    go_wp2_with fail;refine aE [(0,0),(1,0),(2,0),(3,0),(4,0),(5,0),(6,0),(7,1),(8,0),(9,0),(10,0),(11,1),(12,0),(13,2),(14,2),(15,2)] 13 bx (by kernel_rfl) (by intro c a d v w h;cases d<;>exact h) ?_
    repeat ((first|(refine ao rfl (fun K hK=>?_))|(refine aD rfl (fun K hK=>?_)));go_simp;(first|(refine hK _ ?_) );clear hK K;(try go_bits))
    refine ah rfl rfl (fun K hK=>?_);go_wp2;refine⟨.inl (by decide),?_⟩;refine ah rfl rfl (fun K hK=>?_);go_wp2;refine⟨.inl (by decide),?_⟩;refine ah rfl rfl (fun K hK=>?_);go_wp2;refine⟨.inl (by decide),aB ?_⟩;go_wp2;have hm:=Hm.out;have v1:(rv bs k)[m]'(by rw[nt];exact Fy)=bs.getD (bs.length-1-k) 0:=by rw[rh,if_neg (by omega),hm]
    have v2:(rv bs k)[k]'(by rw[nt];exact ko)=bs.getD k 0:=by rw[rh,if_neg (by omega)]
    have st:l1++B8 (rv bs (k+1))++l3=((l1++B8 (rv bs k)++l3).set (o+k) (.int .u8 (((rv bs k)[m]'(by rw[nt];exact Fy)).toNat:Int))).set (o+m) (.int .u8 (((rv bs k)[k]'(by rw[nt];exact ko)).toNat:Int)):=by
     have h1:=Ho.out;subst h1;rw[v1,v2,←Oy bs k aV,←hm];rw[List.append_assoc,List.append_assoc,List.set_append_right _ _ (by omega),List.set_append_right _ _ (by omega)];simp only[Nat.add_sub_cancel_left];rw[List.set_append_left _ _ (by simp[nt];omega),List.set_append_left _ _ (by simp[nt];omega)];simp[B8,List.map_set]
    refine⟨⟨k+1,by omega,by go_num,by go_num,?_,?_⟩,by simp[intOf];omega⟩
    · rw[st]
      exact(heap_setCell_same _ g (o+m) _ _ _ (heap_setCell_same wr g (o+k) _ _ _ Hh.out)).trans (by simp)
    refine World.grownBy.trans hg ⟨rfl,rfl,rfl,by simp[World.setCell,World.drew],fun j hj bN=>?_⟩;have GV:j≠g:=fun e=>bN (by rw[e])
    exact(Below.heap_setCell _ ⟨g,o+m,none⟩ _ j GV).trans (Below.heap_setCell wr ⟨g,o+k,none⟩ _ j GV)
  have e1:¬((k:Int)<(bs.length:Int)-1-(k:Int)):=by omega
  go_wp2;go_end0;exact⟨rfl,by rw[Sa bs k (by omega)] at hh;simpa using hh,hg⟩
theorem vN (A:Option Addr) (c:Nat) (w:World):
 Calls Tryz.prog 118 #[.slice A 0 c] w fun e W'=>e=.returned (.tuple #[])∧w=W':=by
 go_enter Tryz.func118,Tryz.ntmps118;go_wp2
 go_loop [2,3] (fun i j=>i=.int .i64 0∧j=.int .i64 (-1)) (fun _ _=>0)
 case atStart=>exact⟨rfl,rfl⟩
 case round=>
  obtain⟨rfl,rfl⟩:=hrel;go_wp2;go_end0;exact⟨rfl,rfl⟩
theorem DE (base E:Nat) (A:Option Addr) (n c:Nat) (bs:List UInt8) (w:World) (h:Ow w base E (.slice A n c) (B8 bs)) (hl:bs.length≤4096):
 Calls Tryz.prog 118 #[.slice A n c] w fun e W'=>e=.returned (.tuple #[])∧Ow W' base E (.slice A n c) (B8 bs.reverse)∧w.grownBy W' (aY (.slice A n c)):=by
 have h0:=h;obtain⟨A',c',e,h1,h2,h3⟩:=h;injection e with e1 e2 e3;subst e1 e2 e3;simp only[B8_length] at h0 h1 h3⊢
 by_cases hc:c=0
 · have hb:bs=[]:=List.eq_nil_of_length_eq_zero (by omega)
   subst hb;refine(vN A c w).mono fun e W' ⟨he,hw⟩=>?_
   subst hw;exact⟨he,h0,World.grownBy.refl _ _⟩
 obtain⟨g,cur,rfl,hb,hh,hs,ht⟩:=h3 (by omega)
 have aaz:cur=([]++B8 bs++cur.toList.drop bs.length).toArray:=by
  apply Array.ext';simp only[adj];rw[←ht,List.take_append_drop]
 rw[aaz] at hh;have hr:aY (.slice (some ⟨g,0,none⟩) bs.length c)=some g:=by simp[aY,hc]
 refine(si g 0 c [] (cur.toList.drop bs.length) E bs w hh rfl hl).mono fun e W' ⟨he,hh',hg⟩=>⟨he,?_,by rw[hr];exact hg⟩
 refine⟨_,c,by simp,by simpa using h1,h2,fun _=>⟨g,_,rfl,hb,hh',by simp;omega,by simp[List.take_append,ady]⟩⟩
theorem mz (A:Option Addr) (c:Nat) (bs:List UInt8) (w:World) (hs:Sl w w.heap.size A (B8 bs)) (hl:bs.length≤4096):
 Calls Tryz.prog 106 #[.slice A bs.length c] w fun e W'=>∃v,e=.returned v∧Ow W' w.heap.size 5 v (B8 bs.reverse)∧Below w.heap.size w W':=by
 go_enter Tryz.func106,Tryz.ntmps106;go_wp2_with fail;refine(j4 A c bs w hs (by omega)).mono ?_;rintro e w1 ⟨v,rfl,ho,hb⟩;obtain⟨A1,c1,rfl⟩:∃A1 c1,v=.slice A1 bs.length c1:=by obtain⟨A1,c1,e,_⟩:=ho;exact⟨A1,c1,by simpa using e⟩
 go_wp2_with fail;refine(DE _ _ _ _ _ bs w1 ho hl).mono ?_;rintro e w2 ⟨rfl,oU,mw⟩;have bG:=ho.row;have eD:=hb.size;go_wp2;go_ret;exact⟨_,rfl,oU,hb.grown mw eD (fun g hg=>(bG g hg).1)⟩
theorem BL (A:Option Addr) (m c:Nat) (w:World):
 Calls Tryz.prog 108 #[.slice A m c,.int .i64 0] w fun e W'=>∃v,e=.returned v∧Ow W' w.heap.size 5 v (B8 [])∧Below w.heap.size w W':=by
 go_enter Tryz.func108,Tryz.ntmps108;go_wp2;go_ret;exact⟨_,rfl,Ow.nil_ _ _ _ _,(adl _ w).alloc (adi _) _⟩
theorem BM (n:Nat) (hn:n≤4096) (w:World):Calls Tryz.prog 124 #[.int .u64 1,.int .u64 n] w fun e w'=>e=.returned (.tuple #[.int .u64 0,.int .u64 n])∧w=w':=by
 refine(Tryz.bits_Mul 1 n (by omega) (by omega) w).mono fun e w' ⟨he,hw⟩=>⟨?_,hw.symm⟩
 rw[he,show 1*n/18446744073709551616=0 by omega,show 1*n%18446744073709551616=n by omega];rfl
theorem Eh (b o c n:Nat) (x:UInt8) (hn:0<n) (RW:n≤4096) (w:World) (hx:w.cell? ⟨b,o,none⟩=some (.int .u8 (x.toNat:Int))):
 Calls Tryz.prog 108 #[.slice (some ⟨b,o,none⟩) 1 c,.int .i64 n] w fun e W'=>∃v,e=.returned v∧Ow W' w.heap.size 5 v (B8 (List.replicate n x))∧Below w.heap.size w W':=by
 obtain⟨cs,QU,hle,YT⟩:=Lib.run_makeNoZero (P:=Tryz.prog) w #[3] 22 5 Tryz.underlying22 n (by omega)
 have Kb:=YT (by unfold maxLen;omega)
 have QV:(callFunc 125 #[.int .i64 (n:Int)]).run Tryz.prog w=.ok (.value (.slice (some ⟨w.heap.size,0,none⟩) n cs.size)) ((w.alloc (.cells cs 5)).drewN 2):=by
  rw[run_callFunc_extern Tryz.func125 (by kernel_rfl) (by kernel_rfl) (by kernel_rfl) (e:=Extern.BytealgMakeNoZero.makeNoZero #[3] #[22]) (by kernel_rfl),QU]
  rfl
 have h0:((n:Int)==0)=false:=by simp;omega
 have h1:¬((n:Int)<0):=by omega
 have h2:((n:Int)≤8192):=by omega
 obtain⟨g,hg⟩:=ae w.heap.size;have Hg:=ab hg;have Hcm:=ab Kb;clear QU YT Kb;rw[←hg] at QV;clear hg;go_enter Tryz.func108,Tryz.ntmps108;go_wp2_with (first|(go_at_call 124;refine(BM n RW _).mono ?_;rintro e w' ⟨rfl,rfl⟩)|(refine tF (g:=g) (off:=0) (dLen:=n) (dCap:=n) (A:=some ⟨b,o,none⟩) (sLen:=1) (sCap:=c) (cur:=cs) (t:=5) (cs:=[.int .u8 (x.toNat:Int)]) (B:=g) lC rfl (.tmp 58) (.tmp 59) rfl rfl rfl ?_ ?_ ?_ ?_ ?_ ?_;rotate_left 5;intro w1 fu;have Hw1:=ab fu;clear fu))
 · have yi:(B8 (List.replicate n x)).length=n:=by simp
   have hh0:((w.alloc (Obj.cells cs 5)).drewN 2).heap[g]?=some (.cells cs 5 (0,0)):=by rw[Hg.out];exact adk w _
   have NX:Fill w1 g 5 cs.size (B8 (List.replicate n x)) (0+1):=by
    have h:=Fill.splice (k:=0) (m:=1) (xs:=B8 (List.replicate n x)) (cs:=[.int .u8 (x.toNat:Int)]) hh0 rfl (by omega) (by omega) (by omega) (by
     cases n with
     |zero=>omega
     |succ n=>simp[B8,List.replicate_succ])
    rw[Hw1.out];simpa using h
   have bH:Below w.heap.size w w1:=by
    rw[Hw1.out];exact au (x5 ((adl _ w).alloc (adi _) _) 2) (by have:=Hg.out;omega) _
   clear hh0 QV hx Hw1;go_loopw [10] (fun i wr=>∃k:Nat,1≤k∧k≤n∧i=.int .i64 k∧Fill wr g 5 cs.size (B8 (List.replicate n x)) k∧Below w.heap.size w wr) (fun i _=>n-(intOf i).toNat)
   case atStart=>exact⟨1,by omega,by omega,rfl,by simpa using NX,bH⟩
   case round=>
    clear NX bH;obtain⟨k,ko,pJ,rfl,hF,hB⟩:=hrel
    by_cases aV:k<n
    · have bx:Tryz.prog.follows .mixedOrders=true:=by kernel_rfl
      obtain⟨cur,hh,eD,hc⟩:=hF;have Dv:min (k:Int) (n:Int)=(k:Int):=by omega
      have hnk:¬n=k:=by omega
      have pG:w.heap.size≤g:=by have:=Hg.out;omega
      have Hc:=ab hc;have Hh:=ab hh;have nn:=ab eD;clear hc hh eD;go_wp2_with (at_builtin;fail);refine aE [(0,0),(1,0),(2,0),(3,0),(4,0),(5,0),(6,0),(7,2),(8,2),(9,2)] 7 bx (by kernel_rfl) (by intro c a d v w h;cases d<;>exact h) ?_
      repeat ((first|(refine ao rfl (fun K hK=>?_)) );go_simp;(first|(refine hK _ ?_) );clear hK K;(try go_bits))
      refine ah rfl rfl (fun K hK=>?_);refine iY (g:=g) (off:=k) (dLen:=n-k) (dCap:=n-k) (A:=some ⟨g,0,none⟩) (sLen:=k) (sCap:=n) (cur:=cur) (t:=5) (cs:=B8 (List.replicate (min k (n-k)) x)) (B:=wr.heap.size) lC (.tmp 70) (.tmp 73) rfl rfl rfl Hh.out ?_ ?_ ?_ (aR _) ?_
      · simp[Nat.min_def]
      · intro _
        refine⟨g,0,rfl,(adg.1 Hh.out).1,fun j hj=>?_⟩;have hj2:j<k:=by simp at hj;omega
        have e:wr.drew.cell? ⟨g,0+j,none⟩=cur[0+j]?:=adn wr g (0+j) cur _ _ Hh.out;rw[e,Nat.zero_add,Hc.out j hj2];simp[B8,List.getElem?_replicate];omega
      · have:=nn.out;simp;omega
      obtain⟨w2,kT⟩:∃w2,w2=wr.drew.setRow g (cur.toList.take k++B8 (List.replicate (min k (n-k)) x)++cur.toList.drop (k+(B8 (List.replicate (min k (n-k)) x)).length)).toArray:=⟨_,rfl⟩;rw[←kT]
      have YU:Fill w2 g 5 cs.size (B8 (List.replicate n x)) (k+min k (n-k)):=by
       rw[kT];refine Fill.splice (w:=wr.drew) Hh.out nn.out Hc.out (by omega) (by rw[yi];omega) ?_;simp[B8]
      have oV:Below w.heap.size w w2:=by rw[kT];exact au hB.drew pG _
      have hl:((B8 (List.replicate (min k (n-k)) x)).length:Int)=((min k (n-k):Nat):Int):=by simp
      rw[hl];obtain⟨m,hm⟩:=ae (min k (n-k));rw[←hm] at YU⊢;have Fy:1≤m:=by omega
      have hm2:k+m≤n:=by omega
      clear kT hm hl;refine hK _ _ ⟨.inl (by decide),?_⟩;clear hK K;refine ah rfl rfl (fun K hK=>?_);go_wp2;refine⟨.inl (by decide),?_⟩;refine ah rfl rfl (fun K hK=>?_);go_wp2;refine⟨.inl (by decide),aB ?_⟩;go_wp2;refine⟨⟨k+m,by omega,by omega,by go_num,YU,oV⟩,by simp[intOf];omega⟩
    obtain rfl:k=n:=by omega
    go_wp2;go_ret;obtain⟨cur,hh,eD,hc⟩:=hF;have pG:=Hg.out;refine⟨_,rfl,⟨some ⟨g,0,none⟩,k,by simp,by simp,by unfold maxLen;omega,fun _=>⟨g,cur,rfl,by omega,hh,?_,?_⟩⟩,hB⟩
    · omega
    apply List.ext_getElem?;intro i;rw[yi,List.getElem?_take]
    by_cases hi:i<k
    · rw[if_pos hi,Array.getElem?_toList];exact hc i hi
    rw[if_neg hi,List.getElem?_eq_none (by omega)]
 · rw[Hg.out];exact adk w _
 · have:Nat.min 1 n=1:=Nat.min_eq_left (by omega)
   simp[this]
 · intro _
   refine⟨b,o,rfl,by have:=block_lt_of_cell hx;rw[Hg.out];exact this,fun j hj=>?_⟩;have:j=0:=by simpa using hj
   subst this;exact(World.cell?_alloc_lt w _ _ (block_lt_of_cell hx)).trans hx
 · simp;omega
 intro v hv;simp at hv;subst hv;rfl
end Go.Proofs.YtnlkdheaohocnaaGreatDoor
