import Derived.Test.YtidalepbkljkpaaGreatLocalSpaces02
import Derived.Test.YtidalepbkljkpaaGreatLocalSpaces33
import Derived.Test.YtidalepbkljkpaaGreatLocalSpaces04
import Derived.Test.YtidalepbkljkpaaGreatLocalSpaces03
import Derived.Test.YtidalepbkljkpaaGreatLocalSpaces16
import Derived.Test.YtidalepbkljkpaaGreatLocalSpaces22
set_option linter.all false
namespace Go.H
open Go.RowKit
section
theorem zg0 (n:Int) (j:Nat) (m:Int) (hj:j<62) (hm:m=((2 ^ j-1:Nat):Int)):bits .and .i64 n m=n % ((2 ^ j:Nat):Int):=by
 subst hm
 have h2:2 ^ j<2 ^ 62:=Nat.pow_lt_pow_right (by omega) hj
 have h0:0<2 ^ j:=Nat.two_pow_pos j
 have h7:(BitVec.ofInt 64 ((2 ^ j-1:Nat):Int)).toNat=2 ^ j-1:=by
  rw[BitVec.toNat_ofInt]
  have:((2 ^ j-1:Nat):Int) % ((2 ^ 64:Nat):Int)=((2 ^ j-1:Nat):Int):=Int.emod_eq_of_lt (by omega) (by omega)
  rw[this];rfl
 have key:(BitVec.ofInt 64 n &&& BitVec.ofInt 64 ((2 ^ j-1:Nat):Int)).toNat=(n % ((2 ^ 64:Nat):Int)).toNat % 2 ^ j:=by
  rw[BitVec.toNat_and,BitVec.toNat_ofInt,h7,Nat.and_two_pow_sub_one_eq_mod]
 show IntKind.i64.wrap ((BitVec.ofInt 64 n &&& BitVec.ofInt 64 ((2 ^ j-1:Nat):Int)).toNat:Nat)=_
 rw[key]
 have h3:((n % ((2 ^ 64:Nat):Int)).toNat % 2 ^ j:Nat)<2 ^ j:=Nat.mod_lt _ h0
 have h5:IntKind.i64.wrap (((n % ((2 ^ 64:Nat):Int)).toNat % 2 ^ j:Nat):Int)=(((n % ((2 ^ 64:Nat):Int)).toNat % 2 ^ j:Nat):Int):=by
  generalize (n % ((2 ^ 64:Nat):Int)).toNat % 2 ^ j=q at h3
  exact z0t _ (by omega) (by omega)
 rw[h5]
 have h4:((n % ((2 ^ 64:Nat):Int)).toNat:Int)=n % ((2 ^ 64:Nat):Int):=Int.toNat_of_nonneg (Int.emod_nonneg _ (by omega))
 rw[Int.natCast_emod,h4]
 exact Int.emod_emod_of_dvd n (Int.natCast_dvd_natCast.2 (Nat.pow_dvd_pow 2 (by omega)))
end
end Go.H
namespace Go.Proofs.YtidalepbkljkpaaGreat
open Go.RowKit Go.H
set_option maxHeartbeats 1000000
set_option maxRecDepth 100000
section
theorem zg1 {m i:Nat} (h:i<m):(zerosV m)[i]?=some (.int .u8 0):=by
 simp[zerosV,bv,h]
theorem zg2 {n k G:Nat} {u v:Value} (hk:k<G):((((List.range k).map fun i=>bv (UInt8.ofNat (digN n i)))++zerosV (G-k)).toArray.setIfInBounds k u).setIfInBounds k v=(((List.range k).map fun i=>bv (UInt8.ofNat (digN n i)))++zerosV (G-k)).toArray.setIfInBounds k v:=by
 apply Array.toList_inj.1
 simp
theorem zg3 {n k G q:Nat} (hk:k<G) (hq:digN n k=q):(((List.range k).map fun i=>bv (UInt8.ofNat (digN n i)))++zerosV (G-k)).toArray.setIfInBounds k (.int .u8 (q:Int))=(((List.range (k+1)).map fun i=>bv (UInt8.ofNat (digN n i)))++zerosV (G-(k+1))).toArray:=by
 have hl:=zf9 n k
 have e:bv (UInt8.ofNat (digN n k))=.int .u8 (q:Int):=by unfold bv;rw[UInt8.toNat_ofNat_of_lt' hl,hq]
 apply Array.toList_inj.1
 obtain⟨m,hm⟩:∃m,G-k=m+1:=⟨G-k-1,by omega⟩
 rw[hm,show G-(k+1)=m by omega,show zerosV (m+1)=bv 0::zerosV m from rfl]
 simp only[List.setIfInBounds_toArray,List.range_succ,List.map_append,List.map_cons,List.map_nil,e]
 rw[List.set_append_right _ _ (by simp)]
 simp
theorem zg4 (n:Nat) (hn:n<9223372036854775808) (w:World):Calls Tryz.prog 122 #[.int .i64 n] w fun e w'=>∃v',e=.returned v'∧Fr C0 w w'∧w'.ownsRow w.heap.size 5 1 v' (uintN n).length ((uintN n).map bv):=by
 have hg9:=zf6 hn
 have hg1:=zf4 n
 go_enter Tryz.func122,Tryz.ntmps122
 go_wp2
 go_loopw [3,4] (fun g m wr=>∃G M:Nat,g=.int .i64 (G:Int)∧m=.int .i64 (M:Int)∧1≤G∧G≤grp n∧w=wr∧Hid (M=n / 128 ^ (G-1) / 128∧grp n=(G-1)+grp (n / 128 ^ (G-1)))) (fun g _ _=>10-(intOf g).toNat)
 case atStart=>exact⟨1,n / 128,rfl,rfl,Nat.le_refl _,hg1,rfl,zhd (by simp)⟩
 case round=>
  obtain⟨G,M,rfl,rfl,hG1,hG2,rfl,HJ⟩:=hrel
  have HS:=zhd (zf7 HJ.out.2)
  rw[←HJ.out.1,show G-1+1=G by omega] at HS
  have HM:=zhd HJ.out.1
  clear HJ
  by_cases h0:M=0
  · subst h0
    have hg:Hid (grp n=G):=zhd (HS.out.1 rfl)
    have hmk:=mkn G (by omega)
    clear HS HM
    go_wp2
    go_loopw [6,20] (fun _ i wr=>∃k:Nat,k≤G∧i=.int .i64 (k:Int)∧Hid (Fr C0 w wr∧wr.heap[w.heap.size]?=some (.cells (((List.range k).map fun i=>bv (UInt8.ofNat (digN n i)))++zerosV (G-k)).toArray 5 (0,0)))) (fun _ i _=>G-(intOf i).toNat)
    case atStart=>exact⟨0,Nat.zero_le _,rfl,zhd ⟨(Fr.refl C0 w).alloc _,by simpa using heap_alloc_new w _⟩⟩
    case round=>
     obtain⟨k,hk,rfl,HB⟩:=hrel
     by_cases hlt:k<G
     · have h1:(k:Int)<(G:Int):=by omega
       have hc:wr.cell? ⟨w.heap.size,k,none⟩=some (.int .u8 0):=z2k HB.out.2 k (by rw[List.getElem?_toArray,List.getElem?_append_right (by simp)];simp only[List.length_map,List.length_range,Nat.sub_self];exact zg1 (by omega))
       have hz:=z2i k HB.out.2
       have hm1:=zg0 ((n:Int) / 2 ^ (7*(G-1-k))) 7 127 (by omega) (by decide)
       have hd:Hid ((n:Int) / 2 ^ (7*(G-1-k)) % ((2 ^ 7:Nat):Int)=((n / 128 ^ (grp n-1-k) % 128:Nat):Int)):=zhd (by
        rw[hg.out,show(128:Nat)=2 ^ 7 by rfl,←Nat.pow_mul]
        push_cast
        rfl)
       obtain⟨q,hq⟩:∃q,q=n / 128 ^ (grp n-1-k) % 128:=⟨_,rfl⟩
       rw[hd.out,←hq] at hm1
       have hql:q<128:=by rw[hq];exact Nat.mod_lt _ (by omega)
       have HQ:=zhd hq
       have hor:bits .or .u8 (q:Int) 128=((q+128:Nat):Int):=by rw[z0x (by omega) (by omega)];omega
       have hq2:(q:Int) % 256=(q:Int):=by omega
       clear hd hq
       by_cases hkG:k+1<G
       · have hk1:(k:Int)<(G:Int)-1:=by omega
         go_wp2
         go_roundw
         case rel=>
          refine⟨k+1,by omega,by go_num,zhd ⟨(HB.out.1.setCell (p:=⟨w.heap.size,k,none⟩) (.inl (Nat.le_refl _)) _).setCell (p:=⟨w.heap.size,k,none⟩) (.inl (Nat.le_refl _)) _,?_⟩⟩
          have:=z2j (i:=k) (z2j (i:=k) HB.out.2 (.int .u8 (q:Int))) (.int .u8 (((q+128:Nat):Int)))
          rw[show((q:Int)+128)=((q+128:Nat):Int) by omega,this,zg2 hlt,zg3 hlt (by unfold digN;rw[hg.out,if_pos hkG,←hg.out,←HQ.out])]
         case measure=>simp[intOf];omega
       · have hk1:¬(k:Int)<(G:Int)-1:=by omega
         go_wp2
         go_roundw
         case rel=>
          refine⟨k+1,by omega,by go_num,zhd ⟨HB.out.1.setCell (p:=⟨w.heap.size,k,none⟩) (.inl (Nat.le_refl _)) _,?_⟩⟩
          rw[z2j (i:=k) HB.out.2 (.int .u8 (q:Int)),zg3 hlt (by unfold digN;rw[hg.out,if_neg hkG,←hg.out,←HQ.out];omega)]
         case measure=>simp[intOf];omega
     · obtain rfl:k=G:=by omega
       have HE:=zhd HB.out
       clear HB hlt
       go_wp2
       go_ret
       refine⟨_,rfl,HE.out.1,?_⟩
       have h2:=HE.out.2
       rw[Nat.sub_self,show zerosV 0=[] from rfl,List.append_nil] at h2
       unfold uintN
       rw[hg.out,List.map_map,List.length_map,List.length_range]
       refine⟨by simp,.inr ⟨_,k,_,rfl,Nat.le_refl _,h2,Nat.le_refl _,by unfold maxLen;omega,by simp,?_⟩⟩
       rw[List.take_of_length_le (by simp)]
       rfl
  · have hm0:(0:Int)<(M:Int):=by omega
    obtain⟨h1,h2⟩:=HS.out.2 h0
    have H1:=zhd h1
    have hw1:IntKind.i64.wrap ((G:Int)+1)=((G+1:Nat):Int):=by rw[z0t _ (by omega) (by omega)];omega
    clear HS h1
    go_wp2
    go_roundw
    case rel=>exact⟨G+1,M / 128,by go_num,by go_num,by omega,by omega,by first|rfl|trivial,zhd ⟨by rw[HM.out,Nat.add_sub_cancel];conv=>rhs;rw[show G=G-1+1 by omega,Nat.pow_succ,←Nat.div_div_eq_div_mul],by rw[Nat.add_sub_cancel];exact H1.out⟩⟩
    case measure=>simp[intOf];omega
end
section
theorem zg5 {F G:Nat→Prop} {w:World} {kv vv:Value} {k v:Bs} {s:Int} {bare:Bool} (hk:BytesAt F w kv k) (hv:BytesAt G w vv v) :
 Calls Tryz.prog 65 #[.int .i64 s,kv,vv,.bool bare] w fun e w'=>e=.returned (.int .i64 (rightL s k v bare:Int))∧w=w':=by
 obtain⟨A,c,rfl,-⟩:=hk.form
 obtain⟨A',c',rfl,-⟩:=hv.form
 clear hk hv
 unfold rightL
 by_cases h1:s<0
 · rw[if_pos (.inl h1)]
   go_enter Tryz.func65,Tryz.ntmps65
   go_wp2
   go_ret
   exact⟨rfl,rfl⟩
 · by_cases h2:16≤s
   · rw[if_pos (.inr (.inl h2))]
     go_enter Tryz.func65,Tryz.ntmps65
     go_wp2
     go_ret
     exact⟨rfl,rfl⟩
   · have fin:∀hh:¬(s<0∨16≤s∨(k=[]∧bare=false)),Calls Tryz.prog 65 #[.int .i64 s,.slice A k.length c,.slice A' v.length c',.bool bare] w fun e w'=>e=.returned (.int .i64 ((if 60<k.length∨1800<v.length then 3 else 0:Nat):Int))∧w=w':=fun hh=>by
      have hcond:((k.length:Int) == 0)=false∨bare=true:=by
       by_cases hk0:k=[]
       · right
         cases bare with
         |true=>rfl
         |false=>exact absurd (.inr (.inr ⟨hk0,rfl⟩)) hh
       · left
         exact beq_false_of_ne (fun e=>hk0 (List.eq_nil_of_length_eq_zero (by omega)))
      clear hh
      by_cases h5:60<k.length
      · rw[if_pos (.inl h5)]
        have h6:(60:Int)<(k.length:Int):=by omega
        have h4:((k.length:Int) == 0)=false:=beq_false_of_ne (by omega)
        clear hcond
        go_enter Tryz.func65,Tryz.ntmps65
        go_wp2
        go_ret
        exact⟨rfl,rfl⟩
      · have h6:¬(60:Int)<(k.length:Int):=by omega
        by_cases h7:1800<v.length
        · rw[if_pos (.inr h7)]
          have h8:(1800:Int)<(v.length:Int):=by omega
          rcases hcond with h4|rfl
          · cases bare
            all_goals
             go_enter Tryz.func65,Tryz.ntmps65
             go_wp2
             go_ret
             exact⟨rfl,rfl⟩
          · go_enter Tryz.func65,Tryz.ntmps65
            go_wp2
            all_goals
             go_ret
             exact⟨rfl,rfl⟩
        · rw[if_neg (by omega)]
          have h8:¬(1800:Int)<(v.length:Int):=by omega
          rcases hcond with h4|rfl
          · cases bare
            all_goals
             go_enter Tryz.func65,Tryz.ntmps65
             go_wp2
             go_ret
             exact⟨rfl,rfl⟩
          · go_enter Tryz.func65,Tryz.ntmps65
            go_wp2
            all_goals
             go_ret
             exact⟨rfl,rfl⟩
     by_cases h3:k=[]∧bare=false
     · rw[if_pos (.inr (.inr h3))]
       obtain⟨rfl,rfl⟩:=h3
       clear fin
       go_enter Tryz.func65,Tryz.ntmps65
       go_wp2
       go_ret
       exact⟨rfl,rfl⟩
     · have hh:¬(s<0∨16≤s∨(k=[]∧bare=false)):=by rintro(h|h|h);exact h1 h;exact h2 h;exact h3 h
       rw[if_neg hh]
       exact fin hh
theorem zg6 {F:Nat→Prop} {w:World} {kv:Value} {k:Bs} {s:Nat} (hs:s<256) (hk:BytesAt F w kv k) (hn:k.length≤100000) :
 Calls Tryz.prog 67 #[.int .i64 (s:Int),kv] w fun e w'=>∃A m cp,e=.returned (.slice A m cp)∧Fr C0 w w'∧BytesAt (fun b=>w.heap.size≤b) w' (.slice A m cp) (pk s k):=by
 have HR:=zhd (hk.row.mono (F':=fun b=>b<w.heap.size) (fun b _ h=>h))
 obtain⟨A,c,rfl,h1,h2⟩:=hk.form
 clear hk
 have hb:bv (UInt8.ofNat s)=.int .u8 (s:Int):=by unfold bv;rw[UInt8.toNat_ofNat_of_lt' (by show s<256;omega)]
 have hw:IntKind.u8.wrap (s:Int)=(s:Int):=by rw[IntKind.wrap_u8];omega
 have HB:=zhd hb
 clear hb
 go_enter Tryz.func67,Tryz.ntmps67
 go_wp2_with (at_builtin;go_must (refine z0l z2o rfl _ _ rfl (v:=.slice (some ⟨w.heap.size,0,none⟩) 1 1) (xv:=.slice A k.length c) rfl rfl (B:=w.heap.size) (World.ownsRow_lit w #[.int .u8 (s:Int)] 1 (Nat.le_refl _) (by unfold maxLen;omega) rfl) (HR.out.fr0 ((Fr.refl C0 w).alloc _)) (z1c k) (by unfold maxLen;omega) (by omega) (by simp) ?_);intro v2 w2 o2 f2 k2 nil2)
 obtain⟨A2,c2,rfl,-⟩:=z0o o2
 go_ret
 refine⟨A2,_,c2,rfl,((Fr.refl C0 w).alloc _).transO f2 (fun b e=>by simp[Value.ownBlock] at e;omega),?_⟩
 have e1:1+k.length=(pk s k).length:=by unfold pk;rw[List.length_cons];omega
 rw[e1] at o2⊢
 refine BytesAt.ofOwn (B:=w.heap.size) (e:=5) ?_ (fun b e=>(o2.lt b e).1)
 have e2:(pk s k).map bv=[.int .u8 (s:Int)]++k.map bv:=by unfold pk;rw[List.map_cons,HB.out];rfl
 rw[e2]
 simpa using o2
def LocCells (tp pos:Nat) (La:List KV):Array Value:=#[.pointer (some ⟨tp,0,none⟩),.int .i64 (pos:Int)]++((List.range 16).map fun s=>Value.int .i64 (cntS s La:Int)).toArray
structure LocAt (c:Nat→Nat) (w:World) (sp tp:Nat) (Z:TSt) (pos:Nat):Prop where
 t:TreeAt c 1 2 3 w tp Z 0
 blk:w.heap[sp]?=some (.cells (LocCells tp pos (rootL Z.now)) 91 (0,0))
 own:c sp=7
 ok:LocOk (rootL Z.now) pos
variable {c c' : Nat → Nat} {w w' : World} {sp tp pos : Nat} {Z : TSt}
theorem LocAt.fr {C:Nat→Prop} (h:LocAt c w sp tp Z pos) (hf:Fr C w w') (h0:∀b,C b→c b≠0∧c b≠1∧c b≠2∧c b≠3) (hs:¬C sp):LocAt c w' sp tp Z pos:=
 ⟨h.t.fr hf (fun b e=>(h0 b e).1) (fun b e=>(h0 b e).2.1) (fun b e=>(h0 b e).2.2.1) (fun b e=>(h0 b e).2.2.2),hf.blk h.blk hs,h.own,h.ok⟩
theorem LocAt.fr0 (h:LocAt c w sp tp Z pos) (hf:Fr C0 w w'):LocAt c w' sp tp Z pos:=h.fr hf (fun _ e=>e.elim) (fun e=>e.elim)
theorem LocAt.c0 (h:LocAt c w sp tp Z pos):w.cell? ⟨sp,0,none⟩=some (.pointer (some ⟨tp,0,none⟩)):=z2k h.blk 0 rfl
theorem LocAt.c1 (h:LocAt c w sp tp Z pos):w.cell? ⟨sp,1,none⟩=some (.int .i64 (pos:Int)):=z2k h.blk 1 rfl
theorem LocAt.cl (h:LocAt c w sp tp Z pos):Cl w c:=by
 obtain⟨st,lm,km,nr,lr,gv,ov,sn,t⟩:=h.t
 exact t.cl
theorem LocAt.dead (h:LocAt c w sp tp Z pos):Calls Tryz.prog 41 #[.pointer (some ⟨tp,0,none⟩)] w fun e w'=>e=.returned (.bool false)∧w'=w.drew:=by
 obtain⟨st,lm,km,nr,lr,gv,ov,sn,t⟩:=h.t
 exact za7 t.hd
end
end Go.Proofs.YtidalepbkljkpaaGreat
namespace Go.H
open Go.RowKit
section
inductive ChgCells (F:Nat→Prop) (w:World):List Value→List Chg→Prop
 |nil:ChgCells F w [] []
 |cons {x:Chg} {kv vv:Value} {xs:List Value} {l:List Chg}:BytesAt F w kv x.key→BytesAt F w vv x.value→ChgCells F w xs l→ChgCells F w (.int .i64 x.space::kv::vv::.bool x.gone::xs) (x::l)
namespace ChgCells
variable {F F' C : Nat → Prop} {w w' : World}
theorem fr (hf:Fr C w w') (hd:∀b,F b→¬C b):∀{xs:List Value} {l:List Chg},ChgCells F w xs l→ChgCells F w' xs l
 |_,_,.nil=>.nil
 |_,_,.cons h1 h2 h3=>.cons (h1.fr hf hd) (h2.fr hf hd) (fr hf hd h3)
theorem mono (hF:∀b,F b→b<w.heap.size→F' b):∀{xs:List Value} {l:List Chg},ChgCells F w xs l→ChgCells F' w xs l
 |_,_,.nil=>.nil
 |_,_,.cons h1 h2 h3=>.cons (h1.mono hF) (h2.mono hF) (mono hF h3)
theorem append {ys:List Value} {m:List Chg} (k:ChgCells F w ys m):∀{xs:List Value} {l:List Chg},ChgCells F w xs l→ChgCells F w (xs++ys) (l++m)
 |_,_,.nil=>k
 |_,_,.cons h1 h2 h3=>.cons h1 h2 (append k h3)
theorem length:∀{xs:List Value} {l:List Chg},ChgCells F w xs l→xs.length=l.length*4
 |_,_,.nil=>rfl
 |_,_,.cons h1 h2 h3=>by have:=length h3;simp only[List.length_cons];omega
theorem at_:∀{xs:List Value} {l:List Chg} (i:Nat) (hi:i<l.length),ChgCells F w xs l→∃kv vv,xs[i*4]?=some (.int .i64 l[i].space)∧xs[i*4+1]?=some kv∧xs[i*4+2]?=some vv∧xs[i*4+3]?=some (.bool l[i].gone)∧BytesAt F w kv l[i].key∧BytesAt F w vv l[i].value
 |_,_,i,hi,.nil=>by simp at hi
 |_,_,0,hi,.cons h1 h2 h3=>⟨_,_,rfl,rfl,rfl,rfl,h1,h2⟩
 | _, _, i + 1, hi, .cons h1 h2 h3 => by
   have:=at_ i (by simpa using hi) h3
   rw[show(i+1)*4=i*4+1+1+1+1 by omega]
   exact this
theorem one:∀{xs:List Value} {l:List Chg},ChgCells F w xs l→∀u∈xs,u.oneCell'=true
 |_,_,.nil,u,hu=>by simp at hu
 | _, _, .cons h1 h2 h3, u, hu => by
   obtain⟨_,_,rfl,_⟩:=h1
   obtain⟨_,_,rfl,_⟩:=h2
   rcases List.mem_cons.1 hu with rfl|hu
   · rfl
   · rcases List.mem_cons.1 hu with rfl|hu
     · rfl
     · rcases List.mem_cons.1 hu with rfl|hu
       · rfl
       · rcases List.mem_cons.1 hu with rfl|hu
         · rfl
         · exact one h3 u hu
end ChgCells
def ChgsAt (F:Nat→Prop) (w:World) (v:Value) (L:List Chg):Prop:=∃xs,Row F w v L.length 4 xs∧ChgCells F w xs L
end
end Go.H
namespace Go.Proofs.YtidalepbkljkpaaGreat
open Go.RowKit Go.H
set_option maxHeartbeats 2000000
set_option maxRecDepth 100000
section
structure InnerOpen (c:Nat→Nat) (qn rn:Nat) (w:World) (pg:Nat→Option Bs) (N d n:Nat) (l:List KV) (ks:List T):Prop where
 ex:∃lv kv xs kvs,w.heap[n]?=some (.cells #[.int .i64 0,lv,kv] 198 (0,0))∧w.ownsRow 0 200 2 lv l.length xs∧ItemCells (Dt c) w xs l∧w.ownsRow 0 20 1 kv kvs.length kvs∧All2 (Rep c rn w pg N False d) ks kvs∧
  c n=qn∧(∀b,lv.ownBlock=some b→c b=qn∧b≠n)∧(∀b,kv.ownBlock=some b→c b=qn∧b≠n∧¬lv.ownBlock=some b)
variable {c c' : Nat → Nat} {qn rn : Nat} {w w' : World} {pg : Nat → Option Bs} {N d n : Nat} {l : List KV} {ks : List T}
theorem InnerOpen.fr {C:Nat→Prop} (h:InnerOpen c qn rn w pg N d n l ks) (hf:Fr C w w') (hC:∀b,C b→c b≠qn∧c b≠rn∧c b≠0):InnerOpen c qn rn w' pg N d n l ks:=by
 obtain⟨lv,kv,xs,kvs,a1,a2,a3,a4,a5,a6,a7,a8⟩:=h
 exact⟨lv,kv,xs,kvs,hf.blk a1 (fun e=>(hC _ e).1 a6),z0m a2 hf (fun b e k=>(hC _ k).1 (a7 b e).1),a3.fr hf (fun b e k=>(hC _ k).2.2 e),z0m a4 hf (fun b e k=>(hC _ k).1 (a8 b e).1),a5.imp fun _ _ h=>Rep.fr hf (fun b k=>(hC _ k).2.1) (fun b k=>(hC _ k).2.2) h,a6,a7,a8⟩
theorem InnerOpen.lt (h:InnerOpen c qn rn w pg N d n l ks):n<w.heap.size:=by
 obtain⟨lv,kv,xs,kvs,a1,_⟩:=h
 exact(Array.getElem?_eq_some_iff.1 a1).1
theorem InnerOpen.ag (h:InnerOpen c qn rn w pg N d n l ks) (ha:Ag w.heap.size c c'):InnerOpen c' qn rn w pg N d n l ks:=by
 have hl:=h.lt
 obtain⟨lv,kv,xs,kvs,a1,a2,a3,a4,a5,a6,a7,a8⟩:=h
 exact⟨lv,kv,xs,kvs,a1,a2,a3.mono (fun b e k=>(ha b k).trans e),a4,a5.imp fun _ _ h=>Rep.ag ha h,(ha _ hl).trans a6,fun b e=>⟨(ha _ (a2.lt b e).2).trans (a7 b e).1,(a7 b e).2⟩,fun b e=>⟨(ha _ (a4.lt b e).2).trans (a8 b e).1,(a8 b e).2⟩⟩
theorem Rep.cl_own {X:Prop} {b o:Nat}:∀{d:Nat} {t:T} {v:Value},Rep c rn w pg N X d t v→c b≠rn→cnt d (.cl b o) t=0
 |0,_,_,h,_=>h.elim
 | d + 1, .node (.page id) l ks, v, h, hb => by
   obtain⟨_,_,_,_,k⟩:=h
   have:sumN (ks.map (cnt d (.cl b o)))=0:=zb2 fun a ha=>by
    obtain⟨x,hx,rfl⟩:=List.mem_map.1 ha
    exact Rep.cl_own (k x hx).2 hb
   simp only[cnt,Nm.cnt,this];rfl
 | d + 1, .node (.mem n g o') l ks, v, h, hb => by
   obtain⟨kvs,a,e1,e2,k,_⟩:=h
   have:sumN (ks.map (cnt d (.cl b o)))=0:=zb2 fun a ha=>by
    obtain⟨x,hx,rfl⟩:=List.mem_map.1 ha
    obtain⟨v2,hv⟩:=All2.memR k hx
    exact Rep.cl_own hv hb
   have hl:=All2.length k
   simp only[cnt,Nm.cnt,this,Th.cl.injEq]
   rw[if_neg (fun e=>hb (by rw[e.1];exact e1)),if_neg]
   rintro⟨e,h1,h2⟩
   have:kvs≠[]:=by rintro rfl;simp at hl;rw[hl] at h2;simp at h2;omega
   exact hb (by rw[e];exact e2 this)
theorem All2.cl_own {X:Prop} {b o:Nat} {kvs:List Value} (h:All2 (Rep c rn w pg N X d) ks kvs) (hb:c b≠rn):sumN (ks.map (cnt d (.cl b o)))=0:=zb2 fun a ha=>by
 obtain⟨x,hx,rfl⟩:=List.mem_map.1 ha
 obtain⟨v2,hv⟩:=All2.memR h hx
 exact Rep.cl_own hv hb
theorem All2.cl0 {X:Prop} {b o:Nat} {kvs:List Value} (h:All2 (Rep c rn w pg N X d) ks kvs) (hb:w.heap.size≤b):sumN (ks.map (cnt d (.cl b o)))=0:=zb2 fun a ha=>by
 obtain⟨x,hx,rfl⟩:=List.mem_map.1 ha
 obtain⟨v2,hv⟩:=All2.memR h hx
 exact Rep.cl0 hb hv
theorem InnerOpen.close (h:InnerOpen c qn rn w pg N d n l ks) (hk:ks≠[]) (h0:qn≠0) (hr:qn≠rn):∃c' g,(∀b,c b≠qn→c' b=c b)∧Rep c' rn w pg N False (d+1) (.node (.mem n g 0) l ks) (wInner n)∧c g=qn∧g≠n∧g<w.heap.size:=by
 have hl:=h.lt
 obtain⟨lv,kv,xs,kvs,a1,a2,a3,a4,a5,a6,a7,a8⟩:=h
 have hkl:=All2.length a5
 have hk0:kvs≠[]:=by
  rintro rfl
  cases ks with
  |nil=>exact hk rfl
  |cons=>simp at hkl
 obtain⟨A,kc,rfl,hA⟩:=z0o a4
 obtain⟨g,rfl⟩:∃g,A=some ⟨g,0,none⟩:=by
  cases A with
  | none =>
    rcases a4.2 with⟨e,h0⟩|⟨g,cap,cur,e,_⟩
    · exact absurd (List.length_eq_zero_iff.1 h0) hk0
    · cases e
  | some a =>
    obtain⟨g,rfl⟩:=hA a rfl
    exact⟨g,rfl⟩
 have hg:=a8 g rfl
 have hgl:=(a4.lt g rfl).2
 have hx:∀b,c b≠qn→(if b=n∨b=g then rn else if lv.ownBlock=some b then 0 else c b)=c b:=fun b hb=>by
  rw[if_neg (fun e=>hb (by rcases e with e|e;rw[e];exact a6;rw[e];exact hg.1)),if_neg (fun e=>hb (a7 b e).1)]
 obtain⟨_,_,hek,hkc1,hkc2⟩:=(Row.ofOwn a4 (F:=fun _=>True) (fun _ _=>trivial)).form
 injection hek with _ _ hek
 subst hek
 refine⟨fun b=>if b=n∨b=g then rn else if lv.ownBlock=some b then 0 else c b,g,hx,z8s a1 (ItemsAt.ofCells (Row.ofOwn a2 (fun b e=>?_)) (a3.mono (fun b e _=>?_))) (by simp) (by simp) hk0 hkc1 hkc2 (fun j u hj=>by have:=a4.cells (g:=g) rfl j u hj;rw[add0] at this;rwa [Nat.zero_add]) (a5.imp fun _ _ h=>Rep.cc (fun b e=>by rw[hx b (by rw[e];exact fun e=>hr e.symm)];exact e) (fun b e=>by rw[hx b (by rw[e];exact fun e=>h0 e.symm)];exact e) h) (z8q a4 rfl),hg.1,hg.2.1,hgl⟩
 · show(if b=n∨b=g then rn else if lv.ownBlock=some b then 0 else c b)=0
   rw[if_neg (fun k=>by rcases k with k|k;exact(a7 b e).2 k;exact hg.2.2 (by rw[←k];exact e)),if_pos e]
 · show(if b=n∨b=g then rn else if lv.ownBlock=some b then 0 else c b)=0
   rw[hx b (by rw[show c b=0 from e];exact fun e=>h0 e.symm)];exact e
structure AccL (n0 d m:Nat) (ks ks':List T) (gone gone':List Nat):Prop where
 pg:∀id,sumN (ks'.map (cnt d (.pg id)))+gone'.count id=sumN (ks.map (cnt d (.pg id)))+gone.count id
 cl:∀b o,sumN (ks'.map (cnt d (.cl b o)))≤if b<n0 then sumN (ks.map (cnt d (.cl b o))) else 1
 dirty:sumN (ks'.map (dirtyN d))≤sumN (ks.map (dirtyN d))+m
theorem AccL.trans {n0 n1 m m':Nat} {ks2 ks3:List T} {g1 g2 g3:List Nat} (h:AccL n0 d m ks ks2 g1 g2) (k:AccL n1 d m' ks2 ks3 g2 g3) (hn:n0≤n1):AccL n0 d (m+m') ks ks3 g1 g3:=by
 refine⟨fun id=>(k.pg id).trans (h.pg id),fun b o=>?_,by have:=h.dirty;have:=k.dirty;omega⟩
 have h1:=h.cl b o
 have h2:=k.cl b o
 split at h1<;>split at h2<;>split<;>omega
theorem AccL.refl {n0:Nat} {g:List Nat} (hz:∀b o,n0≤b→sumN (ks.map (cnt d (.cl b o)))=0):AccL n0 d 0 ks ks g g:=⟨fun _=>rfl,fun b o=>by split;exact Nat.le_refl _;rw[hz b o (by omega)];omega,Nat.le_refl _⟩
theorem AccL.le {n0 m m':Nat} {ks':List T} {g g':List Nat} (h:AccL n0 d m ks ks' g g') (hm:m≤m'):AccL n0 d m' ks ks' g g':=⟨h.pg,h.cl,Nat.le_trans h.dirty (by omega)⟩
theorem AccL.set {n0 i:Nat} {ta:T} {g g':List Nat} (hi:i<ks.length) (h:Acc n0 d ks[i] [ta] g g') (hz:∀b o,n0≤b→sumN (ks.map (cnt d (.cl b o)))=0):AccL n0 d (2*d) ks (ks.set i ta) g g':=by
 refine⟨fun id=>?_,fun b o=>?_,?_⟩
 · have h1:=h.pg id
   have h2:=zb7 (ta:=ta) hi (cnt d (.pg id))
   simp only[List.map_cons,List.map_nil,sumN,Nat.add_zero] at h1
   omega
 · have h1:=h.cl b o
   have h2:=zb7 (ta:=ta) hi (cnt d (.cl b o))
   have h3:=hz b o
   have h5:=z75 (List.mem_map_of_mem (f:=cnt d (.cl b o)) (List.getElem_mem hi))
   simp only[List.map_cons,List.map_nil,sumN,Nat.add_zero] at h1
   split at h1<;>split<;>first|omega|(have:=h3 (by omega);omega)
 · have h1:=h.dirty
   have h2:=zb7 (ta:=ta) hi (dirtyN d)
   simp only[List.map_cons,List.map_nil,sumN,Nat.add_zero] at h1
   omega
theorem AccL.close {n0 g m:Nat} {t:T} {l':List KV} {ks':List T} {gone gone':List Nat} (h:AccL n0 d m t.ks ks' (gone++goneOf t) gone') (hm:m≤2*d+1) (hn:n0≤n) (hg:n0≤g) (hng:g≠n) (h1:∀o,sumN (ks'.map (cnt d (.cl n o)))=0) (h2:∀o,sumN (ks'.map (cnt d (.cl g o)))=0) (hd:sumN (t.ks.map (dirtyN d))≤dirtyN (d+1) t):Acc n0 (d+1) t [.node (.mem n g 0) l' ks'] gone gone':=by
 refine⟨fun id=>?_,fun b o=>?_,?_⟩
 · have h1:=h.pg id
   rw[List.count_append] at h1
   simp only[List.map_cons,List.map_nil,sumN,Nat.add_zero]
   rw[zba,zb3 d id t]
   omega
 · have h3:=h.cl b o
   have h4:=zb4 d b o t
   simp only[List.map_cons,List.map_nil,sumN,Nat.add_zero]
   rw[zb5]
   by_cases e1:b=n
   · subst e1
     rw[h1 o,if_neg (c:=b=g∧_) (fun e=>hng e.1.symm),if_neg (c:=b<n0) (by omega)]
     split<;>omega
   · by_cases e2:b=g
     · subst e2
       rw[h2 o,if_neg (c:=b=n∧_) (fun e=>e1 e.1),if_neg (c:=b<n0) (by omega)]
       split<;>omega
     · rw[if_neg (fun e=>e1 e.1),if_neg (fun e=>e2 e.1)]
       split at h3<;>split<;>omega
 · have h1:=h.dirty
   simp only[List.map_cons,List.map_nil,sumN,Nat.add_zero,dirtyN]
   omega
end
section
theorem zg7 {F:Nat→Prop} {A:Option Addr} {n c i:Nat} {xs:List Value} {w:World} (hl:Row F w (.slice A n c) n 2 xs) (hone:∀u∈xs,u.oneCell'=true) (hi:i<n) (hn:n≤100) :
 Calls Tryz.prog 161 #[.slice A n c,.int .i64 i] w fun e w'=>∃v',e=.returned v'∧Fr C0 w w'∧w'.ownsRow w.heap.size 200 2 v' (n-1) (xs.take (i*2)++xs.drop ((i+1)*2)):=by
 obtain⟨_,_,he,hnc,hcm⟩:=hl.form
 injection he with e1 e2 e3
 subst e1;subst e3;clear e2
 unfold maxLen at hcm
 have HL:=zhd (hl.mono (F':=fun b=>b<w.heap.size) (fun b _ h=>h));clear hl
 have HO:=zhd hone;clear hone
 have hic:i≤c:=by omega
 have hi0:0≤(i:Int)+1:=by omega
 have hi1:(i:Int)+1≤(n:Int):=by omega
 have hwr:IntKind.i64.wrap ((i:Int)+1)=((i+1:Nat):Int):=by rw[z0t _ (by omega) (by omega)];rfl
 go_enter Tryz.func161,Tryz.ntmps161
 go_wp2_with fail
 refine z1z (Fr C0 w) [] (by kernel_rfl) ?_
 have hSw0:(Fr C0 w) _:=(Fr.refl C0 w).drew
 refine tk 0 hSw0 ?_
 refine tk 1 hSw0 ?_
 refine tk 2 hSw0 ?_
 refine tk 4 hSw0 ?_
 refine tk 5 hSw0 ?_
 refine tk 6 hSw0 ?_
 refine tk 7 hSw0 ?_
 refine one_ 3 rfl (fun K hK=>?_)
 refine z0k z2p _ _ rfl (v:=.slice none 0 0) (xv:=.slice A i c) rfl rfl (B:=w.heap.size) (World.ownsRow_nil _ _ _ _) ((HL.out.take (Nat.le_of_lt hi)).fr0 (by assumption)) (z0p HO.out) (by unfold maxLen;omega) (by omega) (by simp) ?_
 intro v2 w2 o2 f2 k2 nil2
 have G2:=zhd ((Fr.refl C0 w).drew.trans f2 (fun b _ h=>by simp[Value.ownBlock] at h))
 have O2:=zhd o2;clear o2
 have hB2:=G2.out.size
 refine hK.out _ _ ?kS1 (fun hSw1=>?kR1)
 case kS1=>exact G2.out
 clear hK K
 try simp only[Act.put,zs1,zs2,zs3]
 refine one_ 8 rfl (fun K hK=>?_)
 refine z0k z2p _ _ rfl (v:=v2) (xv:=.slice (if c=i+1 then A else A.map (·.add ((i+1)*2))) (n-(i+1)) (c-(i+1))) rfl rfl O2.out ((HL.out.drop (i:=i+1) hi).fr0 G2.out) (z0q HO.out) (by unfold maxLen;omega) (by omega) (by omega) ?_
 intro v3 w3 o3 f3 k3 nil3
 have G3:=G2.out.transO f3 (fun b e=>by have:=(O2.out.lt _ e).1;omega)
 refine hK.out _ _ ?kS2 (fun hSw2=>?kR2)
 case kS2=>exact G3
 clear hK K
 try simp only[Act.put,zs1,zs2,zs3]
 refine tk 9 hSw2 ?_
 refine z1y (by kernel_rfl) ?_ _
 go_wp2
 all_goals
  go_ret
  refine⟨v3,rfl,G3,?_⟩
  have o4:=z0n (B':=w.heap.size) o3 (fun b e=>by have:=(o3.lt _ e).1;omega)
  rw[show n-1=0+i+(n-(i+1)) by omega]
  simpa using o4
theorem zg8 {F:Nat→Prop} {A:Option Addr} {n c i:Nat} {xs:List Value} {w:World} (hl:Row F w (.slice A n c) n 1 xs) (hone:∀u∈xs,u.oneCell'=true) (hi:i<n) (hn:n≤100) :
 Calls Tryz.prog 178 #[.slice A n c,.int .i64 i] w fun e w'=>∃v',e=.returned v'∧Fr C0 w w'∧w'.ownsRow w.heap.size 20 1 v' (n-1) (xs.take i++xs.drop (i+1)):=by
 obtain⟨_,_,he,hnc,hcm⟩:=hl.form
 injection he with e1 e2 e3
 subst e1;subst e3;clear e2
 unfold maxLen at hcm
 have HL:=zhd (hl.mono (F':=fun b=>b<w.heap.size) (fun b _ h=>h));clear hl
 have HO:=zhd hone;clear hone
 have hic:i≤c:=by omega
 have hi0:0≤(i:Int)+1:=by omega
 have hi1:(i:Int)+1≤(n:Int):=by omega
 have hwr:IntKind.i64.wrap ((i:Int)+1)=((i+1:Nat):Int):=by rw[z0t _ (by omega) (by omega)];rfl
 go_enter Tryz.func178,Tryz.ntmps178
 go_wp2_with fail
 refine z1z (Fr C0 w) [] (by kernel_rfl) ?_
 have hSw0:(Fr C0 w) _:=(Fr.refl C0 w).drew
 refine tk 0 hSw0 ?_
 refine tk 1 hSw0 ?_
 refine tk 2 hSw0 ?_
 refine tk 4 hSw0 ?_
 refine tk 5 hSw0 ?_
 refine tk 6 hSw0 ?_
 refine tk 7 hSw0 ?_
 refine one_ 3 rfl (fun K hK=>?_)
 refine z0k z2q _ _ rfl (v:=.slice none 0 0) (xv:=.slice A i c) rfl rfl (B:=w.heap.size) (World.ownsRow_nil _ _ _ _) ((HL.out.take1 (Nat.le_of_lt hi)).fr0 (by assumption)) (z0p HO.out) (by unfold maxLen;omega) (by omega) (by simp) ?_
 intro v2 w2 o2 f2 k2 nil2
 have G2:=zhd ((Fr.refl C0 w).drew.trans f2 (fun b _ h=>by simp[Value.ownBlock] at h))
 have O2:=zhd o2;clear o2
 have hB2:=G2.out.size
 refine hK.out _ _ ?kS3 (fun hSw1=>?kR3)
 case kS3=>exact G2.out
 clear hK K
 try simp only[Act.put,zs1,zs2,zs3]
 refine one_ 8 rfl (fun K hK=>?_)
 refine z0k z2q _ _ rfl (v:=v2) (xv:=.slice (if c=i+1 then A else A.map (fun x=>⟨x.block,x.off+(i+1),none⟩)) (n-(i+1)) (c-(i+1))) rfl rfl O2.out (by have:=(HL.out.drop1 (i:=i+1) hi).fr0 G2.out;simpa [Addr.add] using this) (z0q HO.out) (by unfold maxLen;omega) (by omega) (by omega) ?_
 intro v3 w3 o3 f3 k3 nil3
 have G3:=G2.out.transO f3 (fun b e=>by have:=(O2.out.lt _ e).1;omega)
 refine hK.out _ _ ?kS4 (fun hSw2=>?kR4)
 case kS4=>exact G3
 clear hK K
 try simp only[Act.put,zs1,zs2,zs3]
 refine tk 9 hSw2 ?_
 refine z1y (by kernel_rfl) ?_ _
 go_wp2
 all_goals
  go_ret
  refine⟨v3,rfl,G3,?_⟩
  have o4:=z0n (B':=w.heap.size) o3 (fun b e=>by have:=(o3.lt _ e).1;omega)
  rw[show n-1=0+i+(n-(i+1)) by omega]
  simpa using o4
theorem zg9 (w:World):(binOp .eql 196 (.slice none 0 0) (.slice none 0 0)).run Tryz.prog w=.ok (.bool true) w:=by kernel_rfl
theorem zga (a:Addr) (n c:Nat) (w:World):(binOp .eql 196 (.slice (some a) n c) (.slice none 0 0)).run Tryz.prog w=.ok (.bool false) w:=by kernel_rfl
theorem zgb (lv:Value) (w:World) (hl:∃A n c,lv=.slice A n c):Calls Tryz.prog 186 #[lv,.slice none 0 0] w fun e w'=>e=.returned (wLeaf w.heap.size)∧w.alloc (.cells #[.int .i64 0,lv] 223)=w':=by
 obtain⟨A,n,c,rfl⟩:=hl
 have he:=zg9 w
 go_enter Tryz.func186,Tryz.ntmps186
 go_wp2
 go_ret
 exact⟨rfl,rfl⟩
theorem zgc (lv kv:Value) (w:World) (hl:∃A n c,lv=.slice A n c) (hk:∃a n c,kv=.slice (some a) n c):Calls Tryz.prog 186 #[lv,kv] w fun e w'=>e=.returned (wInner w.heap.size)∧w.alloc (.cells #[.int .i64 0,lv,kv] 198)=w':=by
 obtain⟨A,n,c,rfl⟩:=hl
 obtain⟨a,n2,c2,rfl⟩:=hk
 have he:=zga a n2 c2 w
 go_enter Tryz.func186,Tryz.ntmps186
 go_wp2
 go_ret
 exact⟨rfl,rfl⟩
end
end Go.Proofs.YtidalepbkljkpaaGreat
