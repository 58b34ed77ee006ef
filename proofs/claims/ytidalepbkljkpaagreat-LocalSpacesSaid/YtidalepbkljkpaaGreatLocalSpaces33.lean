import Derived.Test.YtidalepbkljkpaaGreatLocalSpaces31
import Derived.Test.YtidalepbkljkpaaGreatLocalSpaces32
import Derived.Test.YtidalepbkljkpaaGreatLocalSpaces19
import Derived.Lib.SmallJoins
import Derived.Test.YtidalepbkljkpaaGreatLocalSpaces01
import Derived.Test.YtidalepbkljkpaaGreatLocalSpaces02
import Derived.Test.YtidalepbkljkpaaGreatLocalSpaces11
import Derived.Test.YtidalepbkljkpaaGreatLocalSpaces20
import Derived.Test.YtidalepbkljkpaaGreatLocalSpaces16
set_option linter.all false
namespace Go.Proofs.YtidalepbkljkpaaGreat
section
open Go.RowKit Go.H
set_option maxHeartbeats 2000000
set_option maxRecDepth 100000
theorem TreeAt.cl {c:Nat→Nat} {r rn rm:Nat} {w:World} {tp:Nat} {Z:TSt} {k:Nat} (h:TreeAt c r rn rm w tp Z k):Cl w c:=by
 obtain⟨st,lm,km,nr,lr,gv,ov,sn,h⟩:=h
 exact h.cl
def ComAt (c:Nat→Nat) (r rn rm:Nat) (w:World) (tp:Nat) (Z:TSt) (k:Nat) (err:Int) (w':World):Prop:=Fr (fun b=>c b=r∨c b=rn∨c b=rm) w w'∧((err=0∧∃c' Z',Ag w.heap.size c c'∧TreeAt c' r rn rm w' tp Z' k∧(Z'.back=[]∧Z'.snaps=Z.snaps)∧rootL Z'.now=rootL Z.now∧Z'.last=Z'.now∧Z'.gone=[]∧rootD Z'.now=rootD Z.now∧Z'.S.pages=Z.S.pages∧Z'.S.num=Z.S.num+1∧rootDirty Z'.now=0∧Z'.S.dk=Z.S.dk∧(Z.D.after<1→Z'.D.after<1))∨(err=20∧Fell c r w w' Z.S.dk Z.D (TQ Z)))
theorem zek {c:Nat→Nat} {r rn rm:Nat} {w:World} {tp:Nat} {Z:TSt} {k:Nat} (ho:Owners r rn rm) (h:TreeAt c r rn rm w tp Z k) (hn:Z.S.num<1000000) :
 Calls Tryz.prog 123 #[.pointer (some ⟨tp,0,none⟩)] w fun e w'=>∃err:Int,e=.returned (.int .i64 err)∧Hid (ComAt c r rn rm w tp Z k err w'):=by
 obtain⟨st,lm,km,nr,lr,gv,ov,sn,h⟩:=h
 refine(ze5 ho h hn).mono ?_
 rintro e w' ⟨err,rfl,H⟩
 obtain⟨fr,(⟨rfl,c',o',new,S1,D1,R,rv,ba,ke,ag,h',e1,e2,e3,e4,e5,e6⟩|⟨rfl,hf⟩)⟩:=H.out
 case inr=>exact⟨20,rfl,zhd ⟨fr,.inr ⟨rfl,hf⟩⟩⟩
 refine⟨0,rfl,zhd ⟨fr,.inl ⟨rfl,c',_,ag,⟨st,lm,km,rv,rv,_,ov,sn,h'⟩,⟨rfl,rfl⟩,e1,rfl,rfl,e2,e3,by show S1.num+1=_;rw[e4],?_,e5,e6⟩⟩⟩
 have hp:rootPage o':=h'.bk.lp
 show rootDirty o'=0
 cases o' with
 |none=>rfl
 |some p=>exact zc9 hp
theorem zel {c:Nat→Nat} {r rn rm:Nat} {w:World} {tp k:Nat} {Z:TSt} (ho:Owners r rn rm) (h:TreeAt c r rn rm w tp Z k) :
 Calls Tryz.prog 92 #[.pointer (some ⟨tp,0,none⟩)] w fun e w'=>e=.returned (.int .i64 0)∧Fr (fun b=>c b=r) w w'∧TreeAt c r rn rm w' tp { Z with now:=Z.last,gone:=[] } k:=by
 obtain⟨st,lm,km,nr,lr,gv,ov,sn,h⟩:=h
 have hl:lr=.nilIface∨∃tx y,lr=.iface tx y:=by
  have:=h.last
  cases hz:Z.last with
  |none=>rw[hz] at this;exact .inl this
  |some p=>rw[hz] at this;exact .inr this.1.iface
 refine(zal h.hd h.blk hl).mono ?_
 rintro e w' ⟨rfl,hb,hf⟩
 have hap:Apart c r w [tp]:=fun b hb=>by
  simp at hb;subst hb
  exact⟨h.hd.own,_,_,_,h.blk,by decide,by decide,by decide⟩
 have hne:∀b,c b=rm→¬b=tp:=fun b e h2=>ho.mr (e.symm.trans (by rw[h2];exact h.hd.own))
 have hlast:RootAt c rn w' (pgs Z.D) Z.D.blocks False Z.last lr:=RootAt.pageW h.bk.lp h.last
 refine⟨rfl,hf.mono fun b _ e=>by rw[e];exact h.hd.own,st,lm,km,lr,lr,_,ov,sn,⟨⟨z2k hb 0 rfl,h.hd.store.apart ho.r0 hap (hf.mono fun b _ e=>by rw[e];simp),h.hd.alive,h.hd.own⟩,h.cl.mono hf.size,hb,World.ownsRow_nil _ _ _ _,fun b e=>by simp[Value.ownBlock] at e,z0m h.orow hf (fun b e=>hne b (h.oo b e)),h.oo,h.live.fr hf (hne lm h.lmo),h.lmo,h.kept.fr hf (hne km h.kmo),h.kmo,h.lk,hlast,hlast,zdj h.sns h.bk.kp hf (Ag.refl _ _) (fun b _ e h9=>hne b h9 e) (fun b _ e h9=>ho.r0 (h.hd.own.symm.trans (by rw[←(show b=tp from e)];exact h9))),?_⟩⟩
 have hbk:=h.bk
 refine⟨hbk.st,hbk.hn,hbk.ln,hbk.hl,hbk.hb,fun id=>by have:=hbk.b2 id;show rcnt (.pg id) Z.last+0=_;rw[this];rfl,hbk.b2,fun b j=>?_,hbk.lp,?_,hbk.opn,hbk.ok,hbk.sl,hbk.sl,hbk.num,hbk.bl,hbk.bl,hbk.head,hbk.kp⟩
 · show rcnt (.cl b j) Z.last≤1
   have h1:=h.last
   have h2:=hbk.lp
   cases hz:Z.last with
   |none=>exact Nat.zero_le _
   | some p =>
     rw[hz] at h1 h2
     rw[show rcnt (.cl b j) (some p)=cnt p.1 (.cl b j) p.2 from rfl,zdy h2 h1.1];omega
 · show rootDirty Z.last≤_
   have h2:=hbk.lp
   cases hz:Z.last with
   |none=>exact Nat.zero_le _
   | some p =>
     rw[hz] at h2
     rw[show rootDirty (some p)=dirtyN p.1 p.2 from rfl,zc9 h2];omega
def pagesOf:Nat→T→List Nat
 |0,_=>[]
 |d+1,.node nm _ ks=>(match nm with|.page id=>[id]|.mem ..=>[])++(ks.map (pagesOf d)).flatten
theorem zem (x:Nat):∀(d:Nat) (t:T),(pagesOf d t).count x=cnt d (.pg x) t
 |0,_=>rfl
 | d + 1, .node nm l ks => by
   have key:∀ks:List T,((ks.map (pagesOf d)).flatten).count x=sumN (ks.map (cnt d (.pg x))):=by
    intro ks
    induction ks with
    |nil=>rfl
    |cons k ks ih=>simp only[List.map_cons,List.flatten_cons,List.count_append,sumN,ih,zem x d k]
   simp only[pagesOf,cnt,List.count_append,key]
   cases nm with
   | page id =>
     simp only[Nm.cnt,Th.pg.injEq]
     by_cases h:x=id
     · subst h;simp
     · simp[h,List.count_cons,Ne.symm h]
   |mem n g o=>simp[Nm.cnt]
theorem zen:∀{d m:Nat} {t:T},1≤m→Shape d m t→(pagesOf d t).length≤(flat d t).length
 |0,_,_,_,_=>by simp[pagesOf]
 | d + 1, m, .node nm l ks, hm, h => by
   obtain⟨h1,h2,h3,h4⟩:=h
   have hn:(match nm with|.page id=>[id]|.mem ..=>([]:List Nat)).length≤1:=by cases nm<;>simp
   by_cases hd:d=0
   · subst hd
     rw[if_pos rfl] at h4
     subst h4
     show(_++[].flatten).length≤(if 0=0 then l else _).length
     rw[if_pos rfl]
     simp only[List.length_append,List.flatten_nil,List.length_nil]
     omega
   · rw[if_neg hd] at h4
     show(_++(ks.map (pagesOf d)).flatten).length≤(if d=0 then l else _).length
     rw[if_neg hd,ze9 (by simpa using h4.1),List.length_append]
     have key:∀ks:List T,(∀k∈ks,Shape d 2 k)→((ks.map (pagesOf d)).flatten).length≤sumN ((ks.map (flat d)).map List.length):=by
      intro ks
      induction ks with
      |nil=>intro _;simp[sumN]
      | cons k ks ih =>
        intro hk
        have:=ih (fun a ha=>hk a (List.mem_cons_of_mem _ ha))
        have h5:=zen (by omega) (hk k (by simp))
        simp only[List.map_cons,List.flatten_cons,List.length_append,sumN]
        omega
     have:=key ks h4.2
     omega
theorem zeo {Z:TSt} (h:Books Z) (hn:Z.snaps=[]) (hb0:Z.back=[]) (hs:RootSh Z.last):Z.S.state.length≤(rootL Z.last).length:=by
 rw[h.st,z98]
 have hb:∀x∈Z.held,0<rcnt (.pg x) Z.last:=fun x hx=>by
  rcases(h.hl x).1 hx with h1|h1|h1
  · rw[h.b2 x,if_pos h1];omega
  · obtain⟨s,h2,_⟩:=h.kp.kw x h1
    rw[hn] at h2;simp at h2
  · rw[hb0] at h1;simp at h1
 cases hz:Z.last with
 | none =>
   rw[hz] at hb
   cases hh:Z.held with
   |nil=>simp
   |cons x l=>exact absurd (hb x (by rw[hh];simp)) (by simp[rcnt])
 | some p =>
   obtain⟨d,t⟩:=p
   rw[hz] at hb hs
   exact Nat.le_trans (z99 h.hn fun x hx=>List.count_pos_iff.1 (by rw[zem];exact hb x hx)) (zen (Nat.le_refl _) hs)
theorem TreeAt.shl {c:Nat→Nat} {r rn rm:Nat} {w:World} {tp:Nat} {Z:TSt} {k:Nat} (h:TreeAt c r rn rm w tp Z k):RootSh Z.last:=by
 obtain⟨st,lm,km,nr,lr,gv,ov,sn,h⟩:=h
 exact h.last.sh
theorem TreeAt.nosnaps {c:Nat→Nat} {r rn rm:Nat} {w:World} {tp:Nat} {Z:TSt} (h:TreeAt c r rn rm w tp Z 0):Z.snaps=[]:=by
 obtain⟨st,lm,km,nr,lr,gv,ov,sn,h⟩:=h
 exact List.eq_nil_of_length_eq_zero h.sns.1
theorem zep {c:Nat→Nat} {r rn rm:Nat} {w:World} {tp:Nat} {Z:TSt} (h:TreeAt c r rn rm w tp Z 0) (hb:Z.back=[]):Z.S.state.length≤(rootL Z.last).length:=zeo h.bk h.nosnaps hb h.shl
theorem zeq {c:Nat→Nat} {r rn rm:Nat} {w:World} {tp k:Nat} {Z:TSt} {kv:Value} {key:Bs} (h:TreeAt c r rn rm w tp Z k) (hk:BytesAt (Dt c) w kv key) (hw:wrong key []=0) :
 Calls Tryz.prog 66 #[.pointer (some ⟨tp,0,none⟩),kv] w fun e w'=>GetP w w' False e (getL key (rootL Z.now)):=by
 obtain⟨st,lm,km,nr,lr,gv,ov,sn,h⟩:=h
 exact zak h.hd h.cl h.blk h.now h.bk.sn hk hw
theorem zer {c:Nat→Nat} {r rn rm q n:Nat} {w:World} {tp k:Nat} {Z:TSt} {lov hiv:Value} {lo hi:Bs} (hq0:q≠0) (hqr:q≠r) (hqn:q≠rn) (hqc:∀b,c b≠q) (hn:n≤9223372036854775807) (h:TreeAt c r rn rm w tp Z k) (hlo:BytesAt (Dt c) w lov lo) (hhi:BytesAt (Dt c) w hiv hi) (hl1:lo.length≤64) (hl2:hi.length≤64) :
 Calls Tryz.prog 60 #[.pointer (some ⟨tp,0,none⟩),lov,hiv,.int .i64 (n:Int)] w fun e w'=>Fr C0 w w'∧∃v' c',e=.returned (.tuple #[v',.int .i64 0])∧Ag w.heap.size c c'∧Cl w' c'∧Out w.heap.size c' q w' v' ((rangeL lo hi (rootL Z.now)).take n):=by
 obtain⟨st,lm,km,nr,lr,gv,ov,sn,h⟩:=h
 refine(zai hq0 hqr hqn hqc hn h.hd h.cl h.blk h.now h.bk.sn hlo hhi hl1 hl2 (by have:=h.bk.bn;omega)).mono ?_
 rintro e w' ⟨f,⟨hX,_⟩|h'⟩
 · exact hX.elim
 · exact⟨f,h'⟩
theorem zes {c:Nat→Nat} {r rn rm:Nat} {w:World} {tp k:Nat} {Z:TSt} (h:TreeAt c r rn rm w tp Z k):Calls Tryz.prog 119 #[.pointer (some ⟨tp,0,none⟩)] w fun e w'=>e=.returned (.int .i64 ((rootL Z.now).length:Int))∧w=w':=by
 obtain⟨st,lm,km,nr,lr,gv,ov,sn,h⟩:=h
 exact zah h.blk
end
section
open Go.RowKit Go.H
set_option maxHeartbeats 2000000
set_option maxRecDepth 100000
structure Stg (c0:Nat→Nat) (w0:World) (r rn rm:Nat) (c:Nat→Nat) (w:World) (tp:Nat) (Z:TSt) (k:Nat):Prop where
 fr:Fr C0 w0 w
 ag:Ag w0.heap.size c0 c
 tr:TreeAt c r rn rm w tp Z k
@[go_sem] theorem zet (w : World) : (binOp .eql 9 (.string ⟨#[97]⟩) (.string ⟨#[97]⟩)).run Tryz.prog w = .ok (.bool true) w := by kernel_rfl
end
section
open Go.RowKit Go.H
set_option maxHeartbeats 2000000
set_option maxRecDepth 100000
theorem zeu:∀{d m:Nat} {t:T},Shape d m t→∀x∈flat d t,KVok x
 |0,_,_,h,_,_=>h.elim
 | d + 1, m, .node nm l ks, h, x, hx => by
   obtain⟨h1,h2,h3,h4⟩:=h
   by_cases hd:d=0
   · subst hd
     have:x∈l:=by
      have e:flat (0+1) (.node nm l ks)=l:=rfl
      rw[e] at hx;exact hx
     exact h3 x this
   · rw[if_neg hd] at h4
     have e:flat (d+1) (.node nm l ks)=inter l (ks.map (flat d)):=by show(if d=0 then _ else _)=_;rw[if_neg hd]
     rw[e] at hx
     have key:∀(l:List KV) (fs:List (List KV)),(∀x∈l,KVok x)→(∀f∈fs,∀x∈f,KVok x)→∀x∈interT l fs,KVok x:=by
      intro l
      induction l with
      |nil=>intro fs _ _ x hx;simp[interT] at hx
      | cons y l ih =>
        intro fs hl hf x hx
        cases fs with
        |nil=>simp[interT] at hx
        | cons f fs =>
          simp only[interT,List.cons_append] at hx
          rcases List.mem_cons.1 hx with rfl|hx
          · exact hl _ (by simp)
          · rcases List.mem_append.1 hx with hx|hx
            · exact hf f (by simp) x hx
            · exact ih fs (fun a ha=>hl a (List.mem_cons_of_mem _ ha)) (fun a ha=>hf a (List.mem_cons_of_mem _ ha)) x hx
     have hfs:∀f∈ks.map (flat d),∀x∈f,KVok x:=fun f hf x hx=>by
      obtain⟨k,hk,rfl⟩:=List.mem_map.1 hf
      exact zeu (h4.2 k hk) x hx
     cases hm:ks.map (flat d) with
     |nil=>rw[hm] at hx;simp[inter] at hx
     | cons f fs =>
       rw[hm] at hx hfs
       simp only[inter] at hx
       rcases List.mem_append.1 hx with hx|hx
       · exact hfs f (by simp) x hx
       · exact key l fs h3 (fun a ha=>hfs a (List.mem_cons_of_mem _ ha)) x hx
def KeysAt (w:World) (v:Value) (ks:List Bs):Prop:=∃A c,v=.slice A ks.length c∧ks.length≤c∧c≤maxLen∧∀(i:Nat) (h:i<ks.length),∃g o kv,A=some ⟨g,o,none⟩∧w.cell? ⟨g,o+i,none⟩=some kv∧BytesAt (fun _=>True) w kv ks[i]
theorem zev {w:World} {c:Nat→Nat} (hc:Cl w c) (l:List Nat):∃q,(∀k,c k≠q)∧q≠0∧∀a∈l,q≠a:=by
 have h:∀n,∃M,∀k,k<n→c k≤M:=by
  intro n
  induction n with
  |zero=>exact⟨0,fun k h=>absurd h (by omega)⟩
  | succ n ih =>
    obtain⟨M,h⟩:=ih
    refine⟨M+c n,fun k hk=>?_⟩
    by_cases e:k=n
    · subst e;omega
    · have:=h k (by omega);omega
 obtain⟨M,h⟩:=h w.heap.size
 refine⟨M+sumN l+1,fun k e=>?_,by omega,fun a ha=>by have:=z75 ha;omega⟩
 by_cases hk:k<w.heap.size
 · have:=h k hk;omega
 · have:=hc k (by omega);omega
end
section
open Go.RowKit Go.H Go.ChangeShapes Go.WideShapes Go.ChangeAt Go.Deep
theorem zew {n:Int} (h:(Lit.int .u8 n).wf=true):Value.int .u8 n=bv (UInt8.ofNat n.toNat):=by
 have:0≤n∧n≤255:=by simpa [Lit.wf,IntKind.min,IntKind.max,IntKind.signed,IntKind.bits] using h
 unfold bv
 congr 1
 have h2:(UInt8.ofNat n.toNat).toNat=n.toNat % 2 ^ 8:=UInt8.toNat_ofNat'
 rw[h2]
 omega
theorem zex {w:World} {A:Option Addr} {L C:Nat} {zs:List Int} (h1:L≤C) (h2:C≤maxLen) (h3:zs.length=C) (hw:∀n∈zs,(Lit.int .u8 n).wf=true) (h0:A=none→C=0) (hc:∀a,A=some a→∀c,c<C→w.cell? (a.add c)=some (.int .u8 (zs.getD c 0))):BytesAt (fun _=>True) w (.slice A L C) ((zs.take L).map fun n=>UInt8.ofNat n.toNat):=by
 refine⟨A,C,by simp[h3,Nat.min_eq_left h1],by simp[h3];omega,h2,fun hne=>?_⟩
 have hL:0<L:=by
  apply Nat.pos_of_ne_zero
  rintro rfl
  exact hne (by simp)
 cases A with
 |none=>exact absurd (h0 rfl) (by omega)
 | some a =>
   have hz:=hc a rfl 0 (by omega)
   obtain⟨g,o,sp⟩:=a
   have hsp:sp=none:=by simpa [Addr.add] using World.cell?_spot hz
   subst hsp
   refine⟨g,o,rfl,trivial,fun j hj=>?_⟩
   have hj':j<L:=by simp[h3] at hj;omega
   have hcj:=hc _ rfl j (by omega)
   rw[add_plain] at hcj
   rw[hcj]
   have hjz:j<zs.length:=by omega
   simp only[List.getElem_map,List.getElem_take]
   have e2:zs.getD j 0=zs[j]:=by simp[List.getD,List.getElem?_eq_getElem hjz]
   rw[e2]
   congr 1
   exact zew (hw _ (List.getElem_mem hjz))
section
variable {H : Type} {enc : TypeId × Value → H} {P : Program} {w : World} {base : Nat}
end
theorem zey:ownKnob Tryz.prog.godebug=none:=by kernel_rfl
theorem zez:laidOutB Tryz.prog=true:=by kernel_rfl
theorem zf0:Tryz.prog.cellsOf 5=1:=by kernel_rfl
theorem zf1:Tryz.prog.cellsOf 40=1:=by kernel_rfl
end
end Go.Proofs.YtidalepbkljkpaaGreat
namespace Go.H
section
def grp (n:Nat):Nat:=if n<128 then 1 else grp (n / 128)+1
termination_by n
decreasing_by omega
def digN (n i:Nat):Nat:=n / 128 ^ (grp n-1-i) % 128+(if i+1<grp n then 128 else 0)
def uintN (n:Nat):List UInt8:=(List.range (grp n)).map fun i=>UInt8.ofNat (digN n i)
theorem zf2 {n:Nat} (h:n<128):grp n=1:=by rw[grp,if_pos h]
theorem zf3 {n:Nat} (h:¬n<128):grp n=grp (n / 128)+1:=by rw[grp,if_neg h]
theorem zf4 (n:Nat):1≤grp n:=by
 by_cases h:n<128
 · rw[zf2 h];exact Nat.le_refl _
 · rw[zf3 h];omega
theorem zf5:∀(k n:Nat),n<128 ^ (k+1)→grp n≤k+1
 |0,n,h=>by rw[zf2 (by simpa using h)];exact Nat.le_refl _
 | k + 1, n, h => by
   by_cases h1:n<128
   · rw[zf2 h1];omega
   · rw[zf3 h1]
     have:=zf5 k (n / 128) (by rw[Nat.div_lt_iff_lt_mul (by omega)];rwa [Nat.pow_succ] at h)
     omega
theorem zf6 {n:Nat} (h:n<9223372036854775808):grp n≤9:=zf5 8 n (by simpa using h)
theorem zf7 {n j:Nat} (h:grp n=j+grp (n / 128 ^ j)):(n / 128 ^ j / 128=0→grp n=j+1)∧(n / 128 ^ j / 128≠0→grp n=(j+1)+grp (n / 128 ^ (j+1))∧j+1<grp n):=by
 have e:n / 128 ^ (j+1)=n / 128 ^ j / 128:=by rw[Nat.pow_succ,Nat.div_div_eq_div_mul]
 rw[e,h]
 generalize n / 128 ^ j=q at *
 refine⟨fun h0=>?_,fun h0=>?_⟩
 · rw[zf2 (by omega)]
 · rw[zf3 (by omega)]
   have:=zf4 (q / 128)
   omega
theorem zf8 (n:Nat):(uintN n).length=grp n:=by simp[uintN]
theorem zf9 (n i:Nat):digN n i<256:=by
 unfold digN
 have:=Nat.mod_lt (n / 128 ^ (grp n-1-i)) (show 0<128 by omega)
 split<;>omega
end
section
structure Chg where
 space:Int
 key:List UInt8
 value:List UInt8
 gone:Bool
instance:Inhabited Chg:=⟨⟨0,[],[],false⟩⟩
def setD (k v:List UInt8):List KV→List KV
 |[]=>[(k,v)]
 |p::L=>if p.1=k then(k,v)::L else p::setD k v L
def delD (k:List UInt8) (L:List KV):List KV:=L.filter fun p=>decide (p.1≠k)
def stepD (s:Int) (m:List KV) (c:Chg):List KV:=if c.space=s then(if c.gone then delD c.key m else setD c.key c.value m) else m
def mapD (s:Int) (l:List Chg):List KV:=l.foldl (stepD s) []
def likeC (a b:Chg):Prop:=a.space=b.space∧a.key=b.key
instance (a b:Chg):Decidable (likeC a b):=inferInstanceAs (Decidable (_∧_))
def Unlike (l:List Chg):Prop:=l.Pairwise fun a b=>¬likeC a b
def lastsD:List Chg→List Chg
 |[]=>[]
 |c::l=>if l.any (fun x=>decide (likeC x c)) then lastsD l else c::lastsD l
def clt (a b:Chg):Prop:=a.space<b.space∨(a.space=b.space∧bcmp a.key b.key<0)
def liveD (s:Int) (l:List Chg):List KV:=(l.filter fun c=>decide (c.space=s) && !c.gone).map fun c=>(c.key,c.value)
def cmpC (a b:Chg):Int:=if a.space≠b.space then a.space-b.space else bcmp a.key b.key
end
section
theorem zfa {k:List UInt8}:∀{l:List KV},getL k l=none→delL k l=l
 |[],_=>rfl
 | y :: l, h => by
   simp only[getL] at h
   simp only[delL]
   split at h
   · cases h
   · rename_i e
     rw[if_neg e,zfa h]
theorem zfb (k:List UInt8):∀l:List KV,(delL k l).Sublist l
 |[]=>List.Sublist.refl _
 | y :: l => by
   simp only[delL]
   split
   · exact List.sublist_cons_self _ _
   · exact(zfb k l).cons_cons _
theorem zfc {k:List UInt8} {l:List KV} (h:Sorted l):Sorted (delL k l):=h.sublist (zfb k l)
theorem zfd {k:List UInt8}:∀{l:List KV},getL k l≠none→(delL k l).length+1=l.length
 |[],h=>by simp[getL] at h
 | y :: l, h => by
   simp only[getL] at h
   simp only[delL]
   split at h
   · rename_i e;rw[if_pos e];rfl
   · rename_i e;rw[if_neg e];have:=zfd h;simp;omega
theorem zfe {k:List UInt8} {l:List KV} (hs:Sorted l) (h:getL k l≠none):(findL k l).1<l.length∧delL k l=l.take (findL k l).1++l.drop ((findL k l).1+1):=by
 obtain⟨A,B,rfl,h1,h2,⟨e,y,R,rfl,hy,hR⟩|⟨e,hB⟩⟩:=z8c k hs
 · rw[h1]
   refine⟨by simp,?_⟩
   rw[z6k h2,z6r hy]
   simp[List.take_append,List.drop_append]
 · rw[z6n h2,z6o hB] at h
   exact absurd rfl h
theorem zff {k:List UInt8} {l:List KV} {fs:List (List KV)} (h:fs.length=l.length+1) (hs:Sorted (inter l fs)) (hg:getL k (inter l fs)≠none) :
 ∃h1:(findL k l).1<fs.length,Sorted fs[(findL k l).1]∧
 if (findL k l).2 then(findL k l).1<l.length∧∀f x,f++[x]=fs[(findL k l).1]→inter (l.set (findL k l).1 x) (fs.set (findL k l).1 f)=delL k (inter l fs)
 else getL k fs[(findL k l).1]≠none∧∀f,f=delL k fs[(findL k l).1]→inter l (fs.set (findL k l).1 f)=delL k (inter l fs):=by
 obtain⟨A,B,f1,f,f2,rfl,rfl,hf1,hf2,h1,he,h2,hh⟩:=z8b k h hs
 have hget:(f1++f::f2)[A.length]?=some f:=by rw[←hf1];simp
 obtain⟨hlt,hge⟩:=List.getElem?_eq_some_iff.1 hget
 rcases hh with⟨e,y,R,f',f2',rfl,rfl,hy,hL,hR⟩|⟨e,hA,hB⟩
 all_goals
  rw[e]
  simp only[h1]
  refine⟨hlt,?_,?_⟩
 · rw[hge]
   rw[he] at hs
   exact(List.pairwise_append.1 (List.pairwise_append.1 hs).2.1).1
 · simp only[if_true]
   refine⟨by simp,fun g x hx=>?_⟩
   rw[hge] at hx
   have e1:(A++y::R).set A.length x=A++x::R:=by rw[List.set_append_right _ _ (Nat.le_refl _)];simp
   have e2:(f1++f::f'::f2').set A.length g=f1++g::f'::f2':=by rw[←hf1,List.set_append_right _ _ (Nat.le_refl _)];simp
   rw[he,e1,e2,show interT (y::R) (f'::f2')=y::(f'++interT R f2') from rfl,←List.append_assoc,z6k hL,z6r hy,z6w _ _ _ hf1,show interT (x::R) (f'::f2')=x::(f'++interT R f2') from rfl,←hx]
   simp
 · rw[hge]
   rw[he] at hs
   exact(List.pairwise_append.1 (List.pairwise_append.1 hs).2.1).1
 · simp only[Bool.false_eq_true,if_false]
   rw[hge]
   refine⟨?_,?_⟩
   · rw[he,z6n hA,z6p hB] at hg
     exact hg
   · rintro g rfl
     have e2:(f1++f::f2).set A.length (delL k f)=f1++delL k f::f2:=by rw[←hf1,List.set_append_right _ _ (Nat.le_refl _)];simp
     rw[he,e2,z6w _ _ _ hf1,z6k hA,z6m hB]
theorem zfg {l:List KV} {fs:List (List KV)} {f:List KV} {x:KV} (h:fs.length=l.length+1) (hf:f++[x]=fs[l.length]'(by omega)):inter l (fs.set l.length f)++[x]=inter l fs:=by
 have hsp:fs=fs.take l.length++[fs[l.length]'(by omega)]:=by
  have:=List.take_append_getElem (l:=fs) (i:=l.length) (by omega)
  rw[this,List.take_of_length_le (by omega)]
 have hl:(fs.take l.length).length=l.length:=by rw[List.length_take];omega
 have e1:fs.set l.length f=fs.take l.length++[f]:=by
  have h1:(fs.take l.length++[fs[l.length]'(by omega)]).set l.length f=fs.take l.length++[f]:=by
   rw[List.set_append_right _ _ (by omega),hl];simp
  rw[←hsp] at h1;exact h1
 have a1:=z6w [] f [] (l1:=l) (f1:=fs.take l.length) hl
 have a2:=z6w [] (fs[l.length]'(by omega)) [] (l1:=l) (f1:=fs.take l.length) hl
 rw[←hsp] at a2
 simp only[List.append_nil,interT] at a1 a2
 rw[e1,a1,a2,←hf]
 simp
theorem zfh {α:Type} {l:List α} {a:Nat} (h:a+1<l.length):l=l.take a++l[a]::l[a+1]::l.drop (a+2):=by
 rw[←List.drop_eq_getElem_cons,←List.drop_eq_getElem_cons,List.take_append_drop]
theorem zfi {α:Type} {l:List α} {a:Nat} (h:a<l.length):l=l.take a++l[a]::l.drop (a+1):=by
 rw[←List.drop_eq_getElem_cons,List.take_append_drop]
theorem zfj {l:List KV} {fs:List (List KV)} {a:Nat} (h:fs.length=l.length+1) (ha:a<l.length):inter l fs=interH (l.take a) (fs.take a)++((fs[a]'(by omega)++l[a]::fs[a+1]'(by omega))++interT (l.drop (a+1)) (fs.drop (a+2))):=by
 have h1:=zfh (l:=fs) (a:=a) (by omega)
 have h2:=zfi ha
 have h3:=z6w (l[a]::l.drop (a+1)) (fs[a]'(by omega)) (fs[a+1]'(by omega)::fs.drop (a+2)) (l1:=l.take a) (f1:=fs.take a) (by simp;omega)
 rw[←h1,←h2] at h3
 rw[h3]
 simp[interT]
theorem zfk {l:List KV} {fs:List (List KV)} {a:Nat} {F:List KV} (h:fs.length=l.length+1) (ha:a<l.length) (hF:F=fs[a]'(by omega)++l[a]::fs[a+1]'(by omega)) :
 inter (l.take a++l.drop (a+1)) (fs.take a++F::fs.drop (a+2))=inter l fs:=by
 rw[zfj h ha,z6w _ _ _ (by simp;omega),←hF]
theorem zfl {l:List KV} {fs:List (List KV)} {a:Nat} {A B:List KV} {y:KV} (h:fs.length=l.length+1) (ha:a<l.length) (hF:A++y::B=fs[a]'(by omega)++l[a]::fs[a+1]'(by omega)) :
 inter (l.set a y) ((fs.set a A).set (a+1) B)=inter l fs:=by
 have h1:((fs.set a A).set (a+1) B).length=(l.set a y).length+1:=by simp;omega
 rw[zfj h1 (by simpa using ha),zfj h ha]
 have e1:((fs.set a A).set (a+1) B)[a]'(by simp;omega)=A:=by simp[List.getElem_set]
 have e2:((fs.set a A).set (a+1) B)[a+1]'(by simp;omega)=B:=by simp[List.getElem_set]
 have e3:(l.set a y)[a]'(by simpa using ha)=y:=by simp
 have e4:((fs.set a A).set (a+1) B).take a=fs.take a:=by rw[List.take_set_of_le (by omega),List.take_set_of_le (Nat.le_refl _)]
 have e5:((fs.set a A).set (a+1) B).drop (a+2)=fs.drop (a+2):=by rw[List.drop_set_of_lt (by omega),List.drop_set_of_lt (by omega)]
 have e6:(l.set a y).take a=l.take a:=by rw[List.take_set_of_le (Nat.le_refl _)]
 have e7:(l.set a y).drop (a+1)=l.drop (a+1):=by rw[List.drop_set_of_lt (by omega)]
 rw[e1,e2,e3,e4,e5,e6,e7,hF]
theorem zfm {l:List KV} {fs:List (List KV)} {n:Nat} (h:fs.length=l.length+1) (hn:n<l.length):inter (l.take n) (fs.take (n+1))++l[n]::inter (l.drop (n+1)) (fs.drop (n+1))=inter l fs:=by
 rw[←z6x l[n] (l.drop (n+1)) (fs.drop (n+1)) (l1:=l.take n) (f1:=fs.take (n+1)) (by simp;omega) (by intro e;have:=congrArg List.length e;simp at this;omega)]
 rw[←List.drop_eq_getElem_cons,List.take_append_drop,List.take_append_drop]
end
section
theorem zfn {x z:KV}:∀{l:List KV},Sorted l→(z∈putL x l↔z=x∨(z∈l∧bcmp x.1 z.1≠0))
 |[],_=>by simp[putL]
 | y :: l, h => by
   have h1:=List.pairwise_cons.1 h
   have ih:=zfn (x:=x) (z:=z) h1.2
   unfold putL
   split
   · rename_i h2
     have hl:∀a∈l,bcmp x.1 a.1<0:=fun a ha=>z6h h2 (h1.1 a ha)
     simp only[List.mem_cons]
     constructor
     · rintro(rfl|rfl|hz)
       · exact .inl rfl
       · exact .inr ⟨.inl rfl,by omega⟩
       · exact .inr ⟨.inr hz,by have:=hl z hz;omega⟩
     · rintro(rfl|⟨rfl|hz,_⟩)
       · exact .inl rfl
       · exact .inr (.inl rfl)
       · exact .inr (.inr hz)
   · split
     · rename_i h2 h3
       have e:=z6f h3
       simp only[List.mem_cons]
       constructor
       · rintro(rfl|hz)
         · exact .inl rfl
         · exact .inr ⟨.inr hz,by have:=h1.1 z hz;unfold klt at this;rw[←e] at this;omega⟩
       · rintro(rfl|⟨rfl|hz,hne⟩)
         · exact .inl rfl
         · exact absurd h3 hne
         · exact .inr hz
     · rename_i h2 h3
       simp only[List.mem_cons,ih]
       constructor
       · rintro(rfl|rfl|⟨hz,hne⟩)
         · exact .inr ⟨.inl rfl,h3⟩
         · exact .inl rfl
         · exact .inr ⟨.inr hz,hne⟩
       · rintro(rfl|⟨rfl|hz,hne⟩)
         · exact .inr (.inl rfl)
         · exact .inl rfl
         · exact .inr (.inr ⟨hz,hne⟩)
def ordL (x:List UInt8) (l:List KV):List KV:=if x=[] then l else putL (x,x) l
theorem putL_sorted' {x:KV} {l:List KV} (h:Sorted l):Sorted (putL x l):=by
 have key:∀{l:List KV} {y:KV},klt y x→(∀z∈l,klt y z)→Sorted l→∀z∈putL x l,klt y z:=fun {l y} h hl hs z hz=>by
  rcases(zfn hs).1 hz with rfl|⟨hz,_⟩
  · exact h
  · exact hl z hz
 induction l with
 |nil=>simp[putL,Sorted]
 | cons y l ih =>
   have h1:=List.pairwise_cons.1 h
   unfold putL
   split
   · rename_i h2
     exact List.pairwise_cons.2 ⟨fun z hz=>by
      rcases List.mem_cons.1 hz with rfl|hz
      · exact h2
      · exact z6h h2 (h1.1 z hz),h⟩
   · split
     · rename_i h2
       have e:=z6f h2
       refine List.pairwise_cons.2 ⟨fun z hz=>?_,h1.2⟩
       have:=h1.1 z hz
       unfold klt at this⊢
       rw[e];exact this
     · rename_i h2 h3
       refine List.pairwise_cons.2 ⟨key ?_ h1.1 h1.2,ih h1.2⟩
       have:=z6g x.1 y.1
       unfold klt;omega
def foldO (ks:List (List UInt8)):List KV:=ks.foldl (fun l x=>ordL x l) []
end
section
def pk (s:Nat) (k:List UInt8):List UInt8:=UInt8.ofNat s::k
theorem zfo {s t:Nat} {k m:List UInt8} (hs:s<256) (ht:t<256) (h:pk s k=pk t m):s=t∧k=m:=by
 unfold pk at h
 injection h with h1 h2
 have:=congrArg UInt8.toNat h1
 rw[UInt8.toNat_ofNat_of_lt' (by show s<256;omega),UInt8.toNat_ofNat_of_lt' (by show t<256;omega)] at this
 exact⟨this,h2⟩
def locKey (k:List UInt8):Prop:=(∃s m,s<16∧1≤m.length∧m.length≤60∧k=pk s m)∨k=[16]
structure LocOk (La:List KV) (pos:Nat):Prop where
 so:Sorted La
 keys:∀x∈La,locKey x.1
 pos0:La=[]→pos=0
 posL:La≠[]→([16],uintN pos)∈La
 lt:pos<9223372036854775808
theorem LocOk.nil:LocOk [] 0:=⟨List.Pairwise.nil,by simp,fun _=>rfl,fun h=>absurd rfl h,by omega⟩
def inS (s:Nat) (x:KV):Bool:=match x.1 with
 |a::_::_=>decide (a=UInt8.ofNat s)
 |_=>false
def cntS (s:Nat) (La:List KV):Nat:=(La.filter (inS s)).length
theorem zfp {p:KV→Bool} (hp:∀a b:KV,a.1=b.1→p a=p b) (x:KV):∀L:List KV,(p x=true→(putL x L).length+(L.filter p).length=L.length+((putL x L).filter p).length)∧(p x=false→((putL x L).filter p).length=(L.filter p).length)
 | [] => by
   refine⟨fun h=>?_,fun h=>?_⟩<;>simp[putL,h]
 | y :: L => by
   have ih:=zfp hp x L
   simp only[putL]
   by_cases h1:bcmp x.1 y.1<0
   · rw[if_pos h1]
     refine⟨fun h=>?_,fun h=>?_⟩
     · rw[List.filter_cons_of_pos h];simp only[List.length_cons];omega
     · rw[List.filter_cons_of_neg (by simp[h])]
   · rw[if_neg h1]
     by_cases h2:bcmp x.1 y.1=0
     · rw[if_pos h2]
       have e:=hp x y (z6f h2)
       refine⟨fun h=>?_,fun h=>?_⟩
       · rw[List.filter_cons_of_pos h,List.filter_cons_of_pos (e▸h)];simp
       · rw[List.filter_cons_of_neg (by simp[h]),List.filter_cons_of_neg (by rw[←e];simp[h])]
     · rw[if_neg h2]
       refine⟨fun h=>?_,fun h=>?_⟩
       · have:=ih.1 h
         cases hy:p y with
         |true=>rw[List.filter_cons_of_pos hy,List.filter_cons_of_pos hy];simp only[List.length_cons];omega
         |false=>rw[List.filter_cons_of_neg (by simp[hy]),List.filter_cons_of_neg (by simp[hy])];simp only[List.length_cons];omega
       · have:=ih.2 h
         cases hy:p y with
         |true=>rw[List.filter_cons_of_pos hy,List.filter_cons_of_pos hy];simp only[List.length_cons];omega
         |false=>rw[List.filter_cons_of_neg (by simp[hy]),List.filter_cons_of_neg (by simp[hy])];exact this
theorem zfq {p:KV→Bool} (hp:∀a b:KV,a.1=b.1→p a=p b) (x:KV):∀L:List KV,(p x=true→(delL x.1 L).length+(L.filter p).length=L.length+((delL x.1 L).filter p).length)∧(p x=false→((delL x.1 L).filter p).length=(L.filter p).length)
 | [] => by
   refine⟨fun h=>?_,fun h=>?_⟩<;>simp[delL]
 | y :: L => by
   have ih:=zfq hp x L
   simp only[delL]
   by_cases h2:bcmp x.1 y.1=0
   · rw[if_pos h2]
     have e:=hp x y (z6f h2)
     refine⟨fun h=>?_,fun h=>?_⟩
     · rw[List.filter_cons_of_pos (e▸h)];simp only[List.length_cons];omega
     · rw[List.filter_cons_of_neg (by rw[←e];simp[h])]
   · rw[if_neg h2]
     refine⟨fun h=>?_,fun h=>?_⟩
     · have:=ih.1 h
       cases hy:p y with
       |true=>rw[List.filter_cons_of_pos hy,List.filter_cons_of_pos hy];simp only[List.length_cons];omega
       |false=>rw[List.filter_cons_of_neg (by simp[hy]),List.filter_cons_of_neg (by simp[hy])];simp only[List.length_cons];omega
     · have:=ih.2 h
       cases hy:p y with
       |true=>rw[List.filter_cons_of_pos hy,List.filter_cons_of_pos hy];simp only[List.length_cons];omega
       |false=>rw[List.filter_cons_of_neg (by simp[hy]),List.filter_cons_of_neg (by simp[hy])];exact this
theorem zfr (s:Nat) (a b:KV) (h:a.1=b.1):inS s a=inS s b:=by unfold inS;rw[h]
theorem zfs {s t:Nat} {k v:List UInt8} (hs:s<256) (ht:t<256) (hk:k≠[]):inS s (pk t k,v)=decide (s=t):=by
 cases k with
 |nil=>exact absurd rfl hk
 | cons b k =>
   simp only[inS,pk]
   by_cases h:s=t
   · subst h;simp
   · rw[decide_eq_false h]
     refine decide_eq_false fun e=>h ?_
     have:=congrArg UInt8.toNat e
     rw[UInt8.toNat_ofNat_of_lt' (by show t<256;omega),UInt8.toNat_ofNat_of_lt' (by show s<256;omega)] at this
     exact this.symm
def toK (s:Nat) (hi:List UInt8):List UInt8:=if hi=[] then pk (s+1) [] else pk s hi
def spL (s:Nat) (La:List KV):List KV:=(La.filter (inS s)).map fun x=>(x.1.tail,x.2)
def rightL (s:Int) (k v:List UInt8) (bare:Bool):Nat:=if s<0∨16≤s∨(k=[]∧bare=false) then 1 else if 60<k.length∨1800<v.length then 3 else 0
def chkL:List Chg→Nat
 |[]=>0
 |c::l=>if rightL c.space c.key c.value false=1 then 1 else if chkL l=1 then 1 else max (rightL c.space c.key c.value false) (chkL l)
def okC (c:Chg):Prop:=rightL c.space c.key c.value false=0
theorem zft:∀{l:List Chg},chkL l=0→∀c∈l,okC c
 |[],_,c,hc=>by simp at hc
 | x :: l, h, c, hc => by
   simp only[chkL] at h
   split at h
   · cases h
   · split at h
     · cases h
     · rcases List.mem_cons.1 hc with rfl|hc
       · unfold okC;omega
       · exact zft (by omega) c hc
theorem zfu {c:Chg} (h:okC c):0≤c.space∧c.space<16∧1≤c.key.length∧c.key.length≤60∧c.value.length≤1800:=by
 unfold okC rightL at h
 split at h
 · cases h
 · rename_i h1
   split at h
   · cases h
   · have:c.key≠[]:=fun e=>h1 (.inr (.inr ⟨e,rfl⟩))
     have:=List.length_pos_iff.2 this
     omega
def keyC (c:Chg):List UInt8:=pk c.space.toNat c.key
def stepC (La:List KV) (c:Chg):List KV:=if c.gone then delL (keyC c) La else putL (keyC c,c.value) La
def foldC (La:List KV) (l:List Chg):List KV:=l.foldl stepC La
def appL (La:List KV) (l:List Chg) (pos:Nat):List KV:=putL ([16],uintN pos) (foldC La l)
theorem zfv {c:Chg} (h:okC c):locKey (keyC c):=by
 obtain⟨a,b,d,e,_⟩:=zfu h
 exact .inl ⟨c.space.toNat,c.key,by omega,d,e,rfl⟩
theorem zfw {k:List UInt8} {z:KV}:∀{l:List KV},z∈delL k l→z∈l:=fun h=>(zfb k _).subset h
theorem zfx {La:List KV} {c:Chg} (hs:Sorted La) (hk:∀x∈La,locKey x.1) (hc:okC c):Sorted (stepC La c)∧∀x∈stepC La c,locKey x.1:=by
 unfold stepC
 split
 · exact⟨hs.sublist (zfb _ _),fun x hx=>hk x (zfw hx)⟩
 · refine⟨putL_sorted' hs,fun x hx=>?_⟩
   rcases(zfn hs).1 hx with rfl|⟨hx,_⟩
   · exact zfv hc
   · exact hk x hx
theorem zfy:∀{l:List Chg} {La:List KV},Sorted La→(∀x∈La,locKey x.1)→(∀c∈l,okC c)→Sorted (foldC La l)∧∀x∈foldC La l,locKey x.1
 |[],La,hs,hk,_=>⟨hs,hk⟩
 | c :: l, La, hs, hk, hc => by
   obtain⟨a,b⟩:=zfx hs hk (hc c (by simp))
   exact zfy (l:=l) a b fun x hx=>hc x (List.mem_cons_of_mem _ hx)
theorem zfz {La:List KV} {l:List Chg} {pos p0:Nat} (h:LocOk La p0) (hc:∀c∈l,okC c) (hp:pos<9223372036854775808):LocOk (appL La l pos) pos:=by
 obtain⟨a,b⟩:=zfy h.so h.keys hc
 unfold appL
 refine⟨putL_sorted' a,fun x hx=>?_,fun e=>?_,fun _=>(zfn a).2 (.inl rfl),hp⟩
 · rcases(zfn a).1 hx with rfl|⟨hx,_⟩
   · exact .inr rfl
   · exact b x hx
 · have h2:([16],uintN pos)∈putL ([16],uintN pos) (foldC La l):=(zfn a).2 (.inl rfl)
   rw[e] at h2;simp at h2
end
end Go.H
