import Derived.Test.YtidalepbkljkpaaGreatDraftSame07
import Derived.Test.YtidalepbkljkpaaGreatDraftSame12
import Derived.Test.YtidalepbkljkpaaGreatDraftSame10
import Derived.Test.YtidalepbkljkpaaGreatDraftSame14
import Derived.Test.YtidalepbkljkpaaGreatDraftSame02
import Derived.Test.YtidalepbkljkpaaGreatDraftSame03
import Derived.Deep.CutRange
import Derived.Deep.CutBlock
import Derived.Deep.DeepCutAuto
import Derived.Test.YtidalepbkljkpaaGreatDraftSame13
set_option linter.all false
namespace Go.H
section
structure Chg where
 space:Int
 key:List UInt8
 value:List UInt8
 gone:Bool
instance:Inhabited Chg:=⟨⟨0,[],[],false⟩⟩
def setD (k v:List UInt8):List KV→List KV
 |[]=>[(k,v)]
 |p::L=>if p.1=k then(k,v)::L else p::setD k v L
def delD (k:List UInt8) (L:List KV):List KV:=L.filter fun p=>decide (p.1≠k)
def stepD (s:Int) (m:List KV) (c:Chg):List KV:=if c.space=s then(if c.gone then delD c.key m else setD c.key c.value m) else m
def mapD (s:Int) (l:List Chg):List KV:=l.foldl (stepD s) []
def likeC (a b:Chg):Prop:=a.space=b.space∧a.key=b.key
instance (a b:Chg):Decidable (likeC a b):=inferInstanceAs (Decidable (_∧_))
def Unlike (l:List Chg):Prop:=l.Pairwise fun a b=>¬likeC a b
def lastsD:List Chg→List Chg
 |[]=>[]
 |c::l=>if l.any (fun x=>decide (likeC x c)) then lastsD l else c::lastsD l
def clt (a b:Chg):Prop:=a.space<b.space∨(a.space=b.space∧bcmp a.key b.key<0)
theorem z7y {k v:List UInt8}:∀{L:List KV},(∀p∈L,p.1≠k)→setD k v L=L++[(k,v)]
 |[],_=>rfl
 | p :: L, h => by
   rw[setD,if_neg (h p (by simp)),z7y fun q hq=>h q (List.mem_cons_of_mem _ hq)]
   rfl
theorem z7z {k v:List UInt8} {z:KV}:∀{L:List KV},z∈setD k v L→z=(k,v)∨z∈L
 |[],h=>by simpa [setD] using h
 | p :: L, h => by
   rw[setD] at h
   split at h
   · rcases List.mem_cons.1 h with h|h
     · exact .inl h
     · exact .inr (List.mem_cons_of_mem _ h)
   · rcases List.mem_cons.1 h with h|h
     · exact .inr (by rw[h];simp)
     · exact(z7z h).imp id (List.mem_cons_of_mem _)
theorem z80 {k v:List UInt8}:∀{L:List KV},(L.map Prod.fst).Nodup→((setD k v L).map Prod.fst).Nodup
 |[],_=>by simp[setD]
 | p :: L, h => by
   rw[List.map_cons,List.nodup_cons] at h
   rw[setD]
   split
   · rename_i e
     rw[List.map_cons,List.nodup_cons]
     exact⟨by rw[←e];exact h.1,h.2⟩
   · rename_i e
     rw[List.map_cons,List.nodup_cons]
     refine⟨fun hm=>?_,z80 h.2⟩
     obtain⟨q,hq,he⟩:=List.mem_map.1 hm
     rcases z7z hq with rfl|hq
     · exact e he.symm
     · exact h.1 (by rw[←he];exact List.mem_map_of_mem hq)
theorem z81 {k:List UInt8} {L:List KV} (h:(L.map Prod.fst).Nodup):((delD k L).map Prod.fst).Nodup:=h.sublist (List.Sublist.map _ List.filter_sublist)
theorem z82 {s:Int} {m:List KV} {c:Chg} (h:(m.map Prod.fst).Nodup):((stepD s m c).map Prod.fst).Nodup:=by
 unfold stepD
 split
 · split
   · exact z81 h
   · exact z80 h
 · exact h
theorem z83 {s:Int}:∀{l:List Chg} {m:List KV},(m.map Prod.fst).Nodup→((l.foldl (stepD s) m).map Prod.fst).Nodup
 |[],m,h=>h
 |c::l,m,h=>z83 (l:=l) (z82 h)
theorem z84 (s:Int) (l:List Chg):((mapD s l).map Prod.fst).Nodup:=z83 List.nodup_nil
theorem z85 (s:Int) (l:List Chg) (c:Chg):mapD s (l++[c])=stepD s (mapD s l) c:=by unfold mapD;rw[List.foldl_append];rfl
def liveD (s:Int) (l:List Chg):List KV:=(l.filter fun c=>decide (c.space=s) && !c.gone).map fun c=>(c.key,c.value)
theorem z86 {s:Int}:∀{l:List Chg} {m:List KV},Unlike l→(∀c∈l,c.space=s→∀p∈m,p.1≠c.key)→l.foldl (stepD s) m=m++liveD s l
 |[],m,_,_=>by simp[liveD]
 | c :: l, m, h, hm => by
   have hp:=List.pairwise_cons.1 h
   rw[List.foldl_cons]
   have h2:∀c'∈l,c'.space=s→∀p∈m,p.1≠c'.key:=fun c' hc=>hm c' (List.mem_cons_of_mem _ hc)
   by_cases hs:c.space=s
   · have hc:=hm c (by simp) hs
     cases hg:c.gone with
     | true =>
       have e:stepD s m c=m:=by
        unfold stepD
        rw[if_pos hs,if_pos hg]
        exact List.filter_eq_self.2 fun p hp=>by simpa using hc p hp
       rw[e,z86 hp.2 h2]
       simp[liveD,hg]
     | false =>
       have e:stepD s m c=m++[(c.key,c.value)]:=by
        unfold stepD
        rw[if_pos hs,if_neg (by simp[hg]),z7y hc]
       rw[e,z86 hp.2 fun c' hc' hs' p hpm=>?_]
       · simp[liveD,hg,hs]
       · rcases List.mem_append.1 hpm with hpm|hpm
         · exact h2 c' hc' hs' p hpm
         · rw[List.mem_singleton] at hpm
           subst hpm
           exact fun e=>hp.1 c' hc' ⟨hs.trans hs'.symm,e⟩
   · have e:stepD s m c=m:=by unfold stepD;rw[if_neg hs]
     rw[e,z86 hp.2 h2]
     simp[liveD,hs]
theorem z87 {s:Int} {l:List Chg} (h:Unlike l):mapD s l=liveD s l:=by
 unfold mapD
 rw[z86 h (by simp)];rfl
theorem z88 {l:List Chg} (h:Unlike l):Unlike l.reverse:=by
 unfold Unlike
 rw[List.pairwise_reverse]
 exact h.imp fun hab e=>hab ⟨e.1.symm,e.2.symm⟩
theorem z89 {s:Int} {l:List Chg} (h:Unlike l):(mapD s l.reverse).Perm (mapD s l):=by
 rw[z87 h,z87 (z88 h)]
 unfold liveD
 rw[List.filter_reverse,List.map_reverse]
 exact List.reverse_perm _
theorem z8a:∀{l:List Chg} {c:Chg},c∈lastsD l→c∈l
 |[],_,h=>h
 | x :: l, c, h => by
   rw[lastsD] at h
   split at h
   · exact List.mem_cons_of_mem _ (z8a h)
   · rcases List.mem_cons.1 h with h|h
     · rw[h];simp
     · exact List.mem_cons_of_mem _ (z8a h)
theorem z8b:∀l:List Chg,Unlike (lastsD l)
 |[]=>List.Pairwise.nil
 | c :: l => by
   rw[lastsD]
   split
   · exact z8b l
   · rename_i h
     refine List.pairwise_cons.2 ⟨fun x hx e=>h ?_,z8b l⟩
     exact List.any_eq_true.2 ⟨x,z8a hx,decide_eq_true ⟨e.1.symm,e.2.symm⟩⟩
theorem z8c:∀{l:List Chg},Unlike l→lastsD l=l
 |[],_=>rfl
 | c :: l, h => by
   have hp:=List.pairwise_cons.1 h
   rw[lastsD,if_neg,z8c hp.2]
   rw[Bool.not_eq_true,List.any_eq_false]
   exact fun x hx e=>hp.1 x hx (by have:=of_decide_eq_true e;exact⟨this.1.symm,this.2.symm⟩)
theorem z8d {a b:Chg} (h:clt a b) (h2:clt b a):False:=by
 have:=z42 a.key b.key
 rcases h with h|h<;>rcases h2 with h2|h2<;>omega
theorem z8e {l m:List Chg} (hl:l.Pairwise clt) (hm:m.Pairwise clt) (h:l.Perm m):l=m:=
 h.eq_of_pairwise (fun a b _ _ h1 h2=>(z8d h1 h2).elim) hl hm
theorem z8f {a b c:List UInt8} (h1:¬bcmp a b<0) (h2:¬bcmp b c<0):¬bcmp a c<0:=fun h3=>by
 have hs:=z42 a b
 by_cases e:bcmp b a=0
 · rw[z41 e] at h2
   exact h2 h3
 · exact h2 (z43 (b:=a) (by omega) h3)
def cmpC (a b:Chg):Int:=if a.space≠b.space then a.space-b.space else bcmp a.key b.key
theorem z8g {a b:Chg}:cmpC a b<0↔clt a b:=by
 unfold cmpC clt
 by_cases h:a.space=b.space
 · rw[if_neg (by simpa using h)]
   constructor
   · exact fun h2=>.inr ⟨h,h2⟩
   · rintro(h2|h2)
     · omega
     · exact h2.2
 · rw[if_pos h]
   constructor
   · exact fun h2=>.inl (by omega)
   · rintro(h2|h2)
     · omega
     · exact absurd h2.1 h
theorem z8h (a:Chg):¬clt a a:=by
 rintro(h|h)
 · omega
 · rw[z40] at h;omega
theorem z8i {a b c:Chg} (h1:clt a b) (h2:clt b c):clt a c:=by
 rcases h1 with h1|h1<;>rcases h2 with h2|h2
 · exact .inl (by omega)
 · exact .inl (by omega)
 · exact .inl (by omega)
 · exact .inr ⟨by omega,z43 h1.2 h2.2⟩
theorem z8j {a b c:Chg} (h1:¬clt a b) (h2:¬clt b c):¬clt a c:=by
 rintro(h3|h3)
 · exact h1 (.inl (by
    have:¬b.space<c.space:=fun h=>h2 (.inl h)
    omega))
 · have e1:¬a.space<b.space:=fun h=>h1 (.inl h)
   have e2:¬b.space<c.space:=fun h=>h2 (.inl h)
   have e3:a.space=b.space:=by omega
   have e4:b.space=c.space:=by omega
   exact z8f (fun h=>h1 (.inr ⟨e3,h⟩)) (fun h=>h2 (.inr ⟨e4,h⟩)) h3.2
theorem z8k {l:List Chg} (hu:Unlike l) (h:l.Pairwise fun a b=>¬clt b a):l.Pairwise clt:=by
 refine(List.Pairwise.and hu h).imp fun {a b} hab=>?_
 obtain⟨h1,h2⟩:=hab
 by_cases hs:a.space<b.space
 · exact .inl hs
 · have e1:a.space=b.space:=by
    have:¬b.space<a.space:=fun h=>h2 (.inl h)
    omega
   refine .inr ⟨e1,?_⟩
   have h3:¬bcmp b.key a.key<0:=fun h=>h2 (.inr ⟨e1.symm,h⟩)
   have h4:¬bcmp a.key b.key=0:=fun h=>h1 ⟨e1,z41 h⟩
   have:=z42 a.key b.key
   omega
end
end Go.H
section
namespace Go.H
end Go.H
end
namespace Go.H
section
def ordL (x:List UInt8) (l:List KV):List KV:=if x=[] then l else putL (x,x) l
def foldO (ks:List (List UInt8)):List KV:=ks.foldl (fun l x=>ordL x l) []
end
section
def pk (s:Nat) (k:List UInt8):List UInt8:=UInt8.ofNat s::k
theorem z8l (k:List UInt8):bcmp [] k≤0:=by cases k<;>simp[bcmp]
def locKey (k:List UInt8):Prop:=(∃s m,s<16∧1≤m.length∧m.length≤60∧k=pk s m)∨k=[16]
structure LocOk (La:List KV) (pos:Nat):Prop where
 so:Sorted La
 keys:∀x∈La,locKey x.1
 pos0:La=[]→pos=0
 posL:La≠[]→([16],uintN pos)∈La
 lt:pos<9223372036854775808
theorem LocOk.nil:LocOk [] 0:=⟨List.Pairwise.nil,by simp,fun _=>rfl,fun h=>absurd rfl h,by omega⟩
def inS (s:Nat) (x:KV):Bool:=match x.1 with
 |a::_::_=>decide (a=UInt8.ofNat s)
 |_=>false
def cntS (s:Nat) (La:List KV):Nat:=(La.filter (inS s)).length
def toK (s:Nat) (hi:List UInt8):List UInt8:=if hi=[] then pk (s+1) [] else pk s hi
def spL (s:Nat) (La:List KV):List KV:=(La.filter (inS s)).map fun x=>(x.1.tail,x.2)
def rightL (s:Int) (k v:List UInt8) (bare:Bool):Nat:=if s<0∨16≤s∨(k=[]∧bare=false) then 1 else if 60<k.length∨1800<v.length then 3 else 0
def chkL:List Chg→Nat
 |[]=>0
 |c::l=>if rightL c.space c.key c.value false=1 then 1 else if chkL l=1 then 1 else max (rightL c.space c.key c.value false) (chkL l)
def okC (c:Chg):Prop:=rightL c.space c.key c.value false=0
theorem z8m {c:Chg} (h:okC c):0≤c.space∧c.space<16∧1≤c.key.length∧c.key.length≤60∧c.value.length≤1800:=by
 unfold okC rightL at h
 split at h
 · cases h
 · rename_i h1
   split at h
   · cases h
   · have:c.key≠[]:=fun e=>h1 (.inr (.inr ⟨e,rfl⟩))
     have:=List.length_pos_iff.2 this
     omega
def keyC (c:Chg):List UInt8:=pk c.space.toNat c.key
def stepC (La:List KV) (c:Chg):List KV:=if c.gone then delL (keyC c) La else putL (keyC c,c.value) La
def foldC (La:List KV) (l:List Chg):List KV:=l.foldl stepC La
def appL (La:List KV) (l:List Chg) (pos:Nat):List KV:=putL ([16],uintN pos) (foldC La l)
end
section
open Go.RowKit
end
end Go.H
namespace Go.Proofs.YtidalepbkljkpaaGreat
open Go.RowKit Go.H
set_option maxHeartbeats 1000000
set_option maxRecDepth 100000
section
end
section
theorem z8n {F G:Nat→Prop} {w:World} {kv vv:Value} {k v:Bs} {s:Int} {bare:Bool} (hk:BytesAt F w kv k) (hv:BytesAt G w vv v) :
 Calls Tryz.prog 65 #[.int .i64 s,kv,vv,.bool bare] w fun e w'=>e=.returned (.int .i64 (rightL s k v bare:Int))∧w=w':=by
 obtain⟨A,c,rfl,-⟩:=hk.form
 obtain⟨A',c',rfl,-⟩:=hv.form
 clear hk hv
 unfold rightL
 by_cases h1:s<0
 · rw[if_pos (.inl h1)]
   go_enter Tryz.func65,Tryz.ntmps65
   go_wp2
   go_ret
   exact⟨rfl,rfl⟩
 · by_cases h2:16≤s
   · rw[if_pos (.inr (.inl h2))]
     go_enter Tryz.func65,Tryz.ntmps65
     go_wp2
     go_ret
     exact⟨rfl,rfl⟩
   · have fin:∀hh:¬(s<0∨16≤s∨(k=[]∧bare=false)),Calls Tryz.prog 65 #[.int .i64 s,.slice A k.length c,.slice A' v.length c',.bool bare] w fun e w'=>e=.returned (.int .i64 ((if 60<k.length∨1800<v.length then 3 else 0:Nat):Int))∧w=w':=fun hh=>by
      have hcond:((k.length:Int) == 0)=false∨bare=true:=by
       by_cases hk0:k=[]
       · right
         cases bare with
         |true=>rfl
         |false=>exact absurd (.inr (.inr ⟨hk0,rfl⟩)) hh
       · left
         exact beq_false_of_ne (fun e=>hk0 (List.eq_nil_of_length_eq_zero (by omega)))
      clear hh
      by_cases h5:60<k.length
      · rw[if_pos (.inl h5)]
        have h6:(60:Int)<(k.length:Int):=by omega
        have h4:((k.length:Int) == 0)=false:=beq_false_of_ne (by omega)
        clear hcond
        go_enter Tryz.func65,Tryz.ntmps65
        go_wp2
        go_ret
        exact⟨rfl,rfl⟩
      · have h6:¬(60:Int)<(k.length:Int):=by omega
        by_cases h7:1800<v.length
        · rw[if_pos (.inr h7)]
          have h8:(1800:Int)<(v.length:Int):=by omega
          rcases hcond with h4|rfl
          · cases bare
            all_goals
             go_enter Tryz.func65,Tryz.ntmps65
             go_wp2
             go_ret
             exact⟨rfl,rfl⟩
          · go_enter Tryz.func65,Tryz.ntmps65
            go_wp2
            all_goals
             go_ret
             exact⟨rfl,rfl⟩
        · rw[if_neg (by omega)]
          have h8:¬(1800:Int)<(v.length:Int):=by omega
          rcases hcond with h4|rfl
          · cases bare
            all_goals
             go_enter Tryz.func65,Tryz.ntmps65
             go_wp2
             go_ret
             exact⟨rfl,rfl⟩
          · go_enter Tryz.func65,Tryz.ntmps65
            go_wp2
            all_goals
             go_ret
             exact⟨rfl,rfl⟩
     by_cases h3:k=[]∧bare=false
     · rw[if_pos (.inr (.inr h3))]
       obtain⟨rfl,rfl⟩:=h3
       clear fin
       go_enter Tryz.func65,Tryz.ntmps65
       go_wp2
       go_ret
       exact⟨rfl,rfl⟩
     · have hh:¬(s<0∨16≤s∨(k=[]∧bare=false)):=by rintro(h|h|h);exact h1 h;exact h2 h;exact h3 h
       rw[if_neg hh]
       exact fin hh
theorem z8o {F:Nat→Prop} {w:World} {kv:Value} {k:Bs} {s:Nat} (hs:s<256) (hk:BytesAt F w kv k) (hn:k.length≤100000) :
 Calls Tryz.prog 67 #[.int .i64 (s:Int),kv] w fun e w'=>∃A m cp,e=.returned (.slice A m cp)∧Fr C0 w w'∧BytesAt (fun b=>w.heap.size≤b) w' (.slice A m cp) (pk s k):=by
 have HR:=zhd (hk.row.mono (F':=fun b=>b<w.heap.size) (fun b _ h=>h))
 obtain⟨A,c,rfl,h1,h2⟩:=hk.form
 clear hk
 have hb:bv (UInt8.ofNat s)=.int .u8 (s:Int):=by unfold bv;rw[UInt8.toNat_ofNat_of_lt' (by show s<256;omega)]
 have hw:IntKind.u8.wrap (s:Int)=(s:Int):=by rw[IntKind.wrap_u8];omega
 have HB:=zhd hb
 clear hb
 go_enter Tryz.func67,Tryz.ntmps67
 go_wp2_with (at_builtin;go_must (refine z0k z1y rfl _ _ rfl (v:=.slice (some ⟨w.heap.size,0,none⟩) 1 1) (xv:=.slice A k.length c) rfl rfl (B:=w.heap.size) (World.ownsRow_lit w #[.int .u8 (s:Int)] 1 (Nat.le_refl _) (by unfold maxLen;omega) rfl) (HR.out.fr0 ((Fr.refl C0 w).alloc _)) (z0x k) (by unfold maxLen;omega) (by omega) (by simp) ?_);intro v2 w2 o2 f2 k2 nil2)
 obtain⟨A2,c2,rfl,-⟩:=z0n o2
 go_ret
 refine⟨A2,_,c2,rfl,((Fr.refl C0 w).alloc _).transO f2 (fun b e=>by simp[Value.ownBlock] at e;omega),?_⟩
 have e1:1+k.length=(pk s k).length:=by unfold pk;rw[List.length_cons];omega
 rw[e1] at o2⊢
 refine BytesAt.ofOwn (B:=w.heap.size) (e:=5) ?_ (fun b e=>(o2.lt b e).1)
 have e2:(pk s k).map bv=[.int .u8 (s:Int)]++k.map bv:=by unfold pk;rw[List.map_cons,HB.out];rfl
 rw[e2]
 simpa using o2
def LocCells (tp pos:Nat) (La:List KV):Array Value:=#[.pointer (some ⟨tp,0,none⟩),.int .i64 (pos:Int)]++((List.range 16).map fun s=>Value.int .i64 (cntS s La:Int)).toArray
structure LocAt (c:Nat→Nat) (w:World) (sp tp:Nat) (Z:TSt) (pos:Nat):Prop where
 t:TreeAt c 1 2 3 w tp Z 0
 blk:w.heap[sp]?=some (.cells (LocCells tp pos (rootL Z.now)) 91 (0,0))
 own:c sp=7
 ok:LocOk (rootL Z.now) pos
variable {c c' : Nat → Nat} {w w' : World} {sp tp pos : Nat} {Z : TSt}
theorem LocAt.fr {C:Nat→Prop} (h:LocAt c w sp tp Z pos) (hf:Fr C w w') (h0:∀b,C b→c b≠0∧c b≠1∧c b≠2∧c b≠3) (hs:¬C sp):LocAt c w' sp tp Z pos:=
 ⟨h.t.fr hf (fun b e=>(h0 b e).1) (fun b e=>(h0 b e).2.1) (fun b e=>(h0 b e).2.2.1) (fun b e=>(h0 b e).2.2.2),hf.blk h.blk hs,h.own,h.ok⟩
theorem LocAt.fr0 (h:LocAt c w sp tp Z pos) (hf:Fr C0 w w'):LocAt c w' sp tp Z pos:=h.fr hf (fun _ e=>e.elim) (fun e=>e.elim)
theorem LocAt.c0 (h:LocAt c w sp tp Z pos):w.cell? ⟨sp,0,none⟩=some (.pointer (some ⟨tp,0,none⟩)):=z1u h.blk 0 rfl
theorem LocAt.cl (h:LocAt c w sp tp Z pos):Cl w c:=by
 obtain⟨st,lm,km,nr,lr,gv,ov,sn,t⟩:=h.t
 exact t.cl
theorem LocAt.dead (h:LocAt c w sp tp Z pos):Calls Tryz.prog 41 #[.pointer (some ⟨tp,0,none⟩)] w fun e w'=>e=.returned (.bool false)∧w'=w.drew:=by
 obtain⟨st,lm,km,nr,lr,gv,ov,sn,t⟩:=h.t
 exact z6o t.hd
end
end Go.Proofs.YtidalepbkljkpaaGreat
namespace Go.H
open Go.RowKit
section
inductive ChgCells (F:Nat→Prop) (w:World):List Value→List Chg→Prop
 |nil:ChgCells F w [] []
 |cons {x:Chg} {kv vv:Value} {xs:List Value} {l:List Chg}:BytesAt F w kv x.key→BytesAt F w vv x.value→ChgCells F w xs l→ChgCells F w (.int .i64 x.space::kv::vv::.bool x.gone::xs) (x::l)
namespace ChgCells
variable {F F' C : Nat → Prop} {w w' : World}
theorem fr (hf:Fr C w w') (hd:∀b,F b→¬C b):∀{xs:List Value} {l:List Chg},ChgCells F w xs l→ChgCells F w' xs l
 |_,_,.nil=>.nil
 |_,_,.cons h1 h2 h3=>.cons (h1.fr hf hd) (h2.fr hf hd) (fr hf hd h3)
theorem mono (hF:∀b,F b→b<w.heap.size→F' b):∀{xs:List Value} {l:List Chg},ChgCells F w xs l→ChgCells F' w xs l
 |_,_,.nil=>.nil
 |_,_,.cons h1 h2 h3=>.cons (h1.mono hF) (h2.mono hF) (mono hF h3)
theorem append {ys:List Value} {m:List Chg} (k:ChgCells F w ys m):∀{xs:List Value} {l:List Chg},ChgCells F w xs l→ChgCells F w (xs++ys) (l++m)
 |_,_,.nil=>k
 |_,_,.cons h1 h2 h3=>.cons h1 h2 (append k h3)
theorem length:∀{xs:List Value} {l:List Chg},ChgCells F w xs l→xs.length=l.length*4
 |_,_,.nil=>rfl
 |_,_,.cons h1 h2 h3=>by have:=length h3;simp only[List.length_cons];omega
theorem at_:∀{xs:List Value} {l:List Chg} (i:Nat) (hi:i<l.length),ChgCells F w xs l→∃kv vv,xs[i*4]?=some (.int .i64 l[i].space)∧xs[i*4+1]?=some kv∧xs[i*4+2]?=some vv∧xs[i*4+3]?=some (.bool l[i].gone)∧BytesAt F w kv l[i].key∧BytesAt F w vv l[i].value
 |_,_,i,hi,.nil=>by simp at hi
 |_,_,0,hi,.cons h1 h2 h3=>⟨_,_,rfl,rfl,rfl,rfl,h1,h2⟩
 | _, _, i + 1, hi, .cons h1 h2 h3 => by
   have:=at_ i (by simpa using hi) h3
   rw[show(i+1)*4=i*4+1+1+1+1 by omega]
   exact this
theorem one:∀{xs:List Value} {l:List Chg},ChgCells F w xs l→∀u∈xs,u.oneCell'=true
 |_,_,.nil,u,hu=>by simp at hu
 | _, _, .cons h1 h2 h3, u, hu => by
   obtain⟨_,_,rfl,_⟩:=h1
   obtain⟨_,_,rfl,_⟩:=h2
   rcases List.mem_cons.1 hu with rfl|hu
   · rfl
   · rcases List.mem_cons.1 hu with rfl|hu
     · rfl
     · rcases List.mem_cons.1 hu with rfl|hu
       · rfl
       · rcases List.mem_cons.1 hu with rfl|hu
         · rfl
         · exact one h3 u hu
end ChgCells
def ChgsAt (F:Nat→Prop) (w:World) (v:Value) (L:List Chg):Prop:=∃xs,Row F w v L.length 4 xs∧ChgCells F w xs L
theorem ChgsAt.fr {F C:Nat→Prop} {w w':World} {v:Value} {L:List Chg} (h:ChgsAt F w v L) (hf:Fr C w w') (hd:∀b,F b→¬C b):ChgsAt F w' v L:=by
 obtain⟨xs,a,b⟩:=h
 exact⟨xs,a.fr hf hd,b.fr hf hd⟩
theorem ChgsAt.fr0 {F:Nat→Prop} {w w':World} {v:Value} {L:List Chg} (h:ChgsAt F w v L) (hf:Fr C0 w w'):ChgsAt F w' v L:=h.fr hf (fun _ _ k=>k)
theorem ChgsAt.form {F:Nat→Prop} {w:World} {v:Value} {L:List Chg} (h:ChgsAt F w v L):∃A c,v=.slice A L.length c∧L.length≤c∧c≤maxLen:=by
 obtain⟨xs,a,b⟩:=h
 exact a.form
end
end Go.H
namespace Go.Proofs.YtidalepbkljkpaaGreat
open Go.RowKit Go.H
set_option maxRecDepth 100000
section
set_option maxHeartbeats 2000000
structure InnerOpen (c:Nat→Nat) (qn rn:Nat) (w:World) (pg:Nat→Option Bs) (N d n:Nat) (l:List KV) (ks:List T):Prop where
 ex:∃lv kv xs kvs,w.heap[n]?=some (.cells #[.int .i64 0,lv,kv] 198 (0,0))∧w.ownsRow 0 200 2 lv l.length xs∧ItemCells (Dt c) w xs l∧w.ownsRow 0 20 1 kv kvs.length kvs∧All2 (Rep c rn w pg N False d) ks kvs∧
  c n=qn∧(∀b,lv.ownBlock=some b→c b=qn∧b≠n)∧(∀b,kv.ownBlock=some b→c b=qn∧b≠n∧¬lv.ownBlock=some b)
variable {c c' : Nat → Nat} {qn rn : Nat} {w w' : World} {pg : Nat → Option Bs} {N d n : Nat} {l : List KV} {ks : List T}
structure AccL (n0 d m:Nat) (ks ks':List T) (gone gone':List Nat):Prop where
 pg:∀id,sumN (ks'.map (cnt d (.pg id)))+gone'.count id=sumN (ks.map (cnt d (.pg id)))+gone.count id
 cl:∀b o,sumN (ks'.map (cnt d (.cl b o)))≤if b<n0 then sumN (ks.map (cnt d (.cl b o))) else 1
 dirty:sumN (ks'.map (dirtyN d))≤sumN (ks.map (dirtyN d))+m
end
section
set_option maxHeartbeats 2000000
end
section
set_option maxHeartbeats 2000000
end
section
set_option maxHeartbeats 2000000
variable {c : Nat → Nat} {rn : Nat} {w : World} {pg : Nat → Option Bs} {N d : Nat}
structure Pair2 (c:Nat→Nat) (rn:Nat) (w:World) (pg:Nat→Option Bs) (N d:Nat) (vl vr:Value) (l1 l2:List KV) (ks1 ks2:List T):Prop where
 left:∃n g o,Rep c rn w pg N False (d+1) (.node (.mem n g o) l1 ks1) vl
 right:∃n g o,Rep c rn w pg N False (d+1) (.node (.mem n g o) l2 ks2) vr
 k0:d=0→ks1=[]∧ks2=[]
 k1:¬d=0→ks1≠[]∧ks2≠[]
 len:l1.length≤10∧l2.length≤10∧ks1.length≤10∧ks2.length≤10
end
section
set_option maxHeartbeats 2000000
variable {c : Nat → Nat} {rn : Nat} {w : World} {pg : Nat → Option Bs} {N d : Nat}
structure Shared (c:Nat→Nat) (rn:Nat) (w0 w:World) (pg:Nat→Option Bs) (N d m:Nat) (L:List KV) (K:List T) (va vb kw vw:Value) (c':Nat→Nat):Prop where
 ag:Ag w0.heap.size c c'
 cl:Cl w c'
 ex:∃na nb g,w0.heap.size≤na∧w0.heap.size≤nb∧w0.heap.size≤g∧na≠nb∧g≠na∧g≠nb∧Rep c' rn w pg N False (d+1) (.node (.mem na g 0) (L.take m) (K.take (m+1))) va∧Rep c' rn w pg N False (d+1) (.node (.mem nb g (m+1)) (L.drop (m+1)) (K.drop (m+1))) vb
 mid:∃y,L[m]?=some y∧BytesAt (Dt c') w kw y.1∧BytesAt (Dt c') w vw y.2
end
section
set_option maxHeartbeats 2000000
variable {d a : Nat} {ks : List T}
end
section
set_option maxHeartbeats 2000000
def T.isMem' (t:T):Prop:=∃n g o,t.nm=.mem n g o
end
section
set_option maxHeartbeats 2000000
structure MendRes (c:Nat→Nat) (qn rn q:Nat) (w:World) (pg:Nat→Option Bs) (N d n:Nat) (l:List KV) (ks:List T) (wp tp:Nat) (gone:List Nat) (w':World):Prop where
 fr:Fr (fun b=>c b=q∨c b=qn) w w'
 ex:∃c' l' ks' gone',Ag w.heap.size c c'∧Cl w' c'∧WorkAt c' q w' wp tp gone'∧InnerOpen c' qn rn w' pg N d n l' ks'∧ks'.length=l'.length+1∧(∀k∈ks',Shape d 2 k)∧(∀y∈l',KVok y)∧l.length≤l'.length+1∧l'.length≤l.length∧
  inter l' (ks'.map (flat d))=inter l (ks.map (flat d))∧AccL w.heap.size d 1 ks ks' gone gone'∧gone'.length≤gone.length+1
structure MendMid (c c1:Nat→Nat) (rn q:Nat) (w wx:World) (pg:Nat→Option Bs) (N d:Nat) (t1 t2:T) (lf rt:Value) (wp tp:Nat) (gone gone1:List Nat):Prop where
 fr:Fr (fun b=>c b=q) w wx
 ag:Ag w.heap.size c c1
 cl:Cl wx c1
 wk:WorkAt c1 q wx wp tp gone1
 pair:Pair2 c1 rn wx pg N d lf rt t1.l t2.l t1.ks t2.ks
 cnt:∀id,gone1.count id=gone.count id+(goneOf t1).count id+(goneOf t2).count id
 len:gone1.length≤gone.length+1
variable {c c1 c5 : Nat → Nat} {rn q qn : Nat} {w w1 w3 w4 w5 w6 w7 w8 : World} {pg : Nat → Option Bs} {N d n a wp tp : Nat} {l : List KV} {ks : List T} {lv kv lf rt : Value} {xs kvs : List Value} {gone gone1 : List Nat}
end
section
set_option maxHeartbeats 40000000
end
section
set_option maxHeartbeats 2000000
end
section
set_option maxHeartbeats 4000000
structure LeafNew (c':Nat→Nat) (w0 w:World) (n:Nat) (A:Option Addr) (cap:Nat) (l:List KV) (xs:List Value):Prop where
 blk:w.heap[n]?=some (.cells #[.int .i64 0,.slice A l.length cap] 223 (0,0))
 row:w.ownsRow 0 200 2 (.slice A l.length cap) l.length xs
 cells:ItemCells (fun b=>c' b=0∧b≠n∧¬(Value.slice A l.length cap).ownBlock=some b) w xs l
 nn:w0.heap.size≤n∧c' n=0
 rr:∀b,(Value.slice A l.length cap).ownBlock=some b→w0.heap.size≤b∧c' b=0∧b≠n
structure LastRes (c:Nat→Nat) (rn q:Nat) (w:World) (pg:Nat→Option Bs) (N d m:Nat) (t:T) (L:List KV) (x:KV) (wp tp:Nat) (gone:List Nat) (tx:TypeId) (y kv vv:Value) (w':World):Prop where
 fr:Fr (fun b=>c b=q) w w'
 ex:∃c' gone' ta,Ag w.heap.size c c'∧Cl w' c'∧WorkAt c' q w' wp tp gone'∧gone'.length≤gone.length+2*d∧Rep c' rn w' pg N False d ta (.iface tx y)∧T.isMem' ta∧Shape d (m-1) ta∧flat d ta=L∧BytesAt (Dt c') w' kv x.1∧BytesAt (Dt c') w' vv x.2∧Acc w.heap.size d t [ta] gone gone'
def LastEnd (c:Nat→Nat) (rn q:Nat) (w:World) (pg:Nat→Option Bs) (N d m:Nat) (t:T) (L:List KV) (x:KV) (wp tp:Nat) (gone:List Nat) (e:Ending) (w':World):Prop:=
 ∃tx y kA kn kc vA vn vc,e=.returned (.tuple #[.iface tx y,.agg #[.slice kA kn kc,.slice vA vn vc]])∧LastRes c rn q w pg N d m t L x wp tp gone tx y (.slice kA kn kc) (.slice vA vn vc) w'
end
section
set_option maxHeartbeats 2000000
end
section
set_option maxHeartbeats 2000000
structure InnerAt (c:Nat→Nat) (qn rn:Nat) (w:World) (pg:Nat→Option Bs) (N d n:Nat) (l:List KV) (ks:List T) (L0 lc G kc:Nat) (xs kvs:List Value):Prop where
 blk:w.heap[n]?=some (.cells #[.int .i64 0,.slice (some ⟨L0,0,none⟩) l.length lc,.slice (some ⟨G,0,none⟩) kvs.length kc] 198 (0,0))
 row:w.ownsRow 0 200 2 (.slice (some ⟨L0,0,none⟩) l.length lc) l.length xs
 cells:ItemCells (Dt c) w xs l
 krow:w.ownsRow 0 20 1 (.slice (some ⟨G,0,none⟩) kvs.length kc) kvs.length kvs
 kids:All2 (Rep c rn w pg N False d) ks kvs
 cn:c n=qn
 cl:c L0=qn∧L0≠n
 cg:c G=qn∧G≠n∧G≠L0
variable {c c' : Nat → Nat} {qn rn : Nat} {w w' : World} {pg : Nat → Option Bs} {N d n : Nat} {l : List KV} {ks : List T} {L0 lc G kc : Nat} {xs kvs : List Value}
end
section
set_option maxHeartbeats 4000000
def LastIH (r rn q st tp wp:Nat) (S:SSt) (D:DSt) (d:Nat):Prop:=∀{m:Nat} {c:Nat→Nat} {w:World} {t:T} {v:Value} {gone:List Nat} {L:List KV} {x:KV},Hd c r w tp st S D→Cl w c→WorkAt c q w wp tp gone→Rep c rn w (pgs D) D.blocks False d t v→Shape d m t→1≤m→flat d t=L++[x]→gone.length+2*d≤1000000→
 Calls Tryz.prog 162 #[.pointer (some ⟨wp,0,none⟩),v] w (LastEnd c rn q w (pgs D) D.blocks d m t L x wp tp gone)
end
section
set_option maxHeartbeats 4000000
structure TakeRes (c:Nat→Nat) (rn q:Nat) (w:World) (pg:Nat→Option Bs) (N d m:Nat) (t:T) (L:List KV) (wp tp:Nat) (gone:List Nat) (tx:TypeId) (y:Value) (w':World):Prop where
 fr:Fr (fun b=>c b=q) w w'
 ex:∃c' gone' ta,Ag w.heap.size c c'∧Cl w' c'∧WorkAt c' q w' wp tp gone'∧gone'.length≤gone.length+2*d∧Rep c' rn w' pg N False d ta (.iface tx y)∧T.isMem' ta∧Shape d (m-1) ta∧flat d ta=L∧Acc w.heap.size d t [ta] gone gone'
def TakeEnd (c:Nat→Nat) (rn q:Nat) (w:World) (pg:Nat→Option Bs) (N d m:Nat) (t:T) (L:List KV) (wp tp:Nat) (gone:List Nat) (e:Ending) (w':World):Prop:=
 ∃tx y,e=.returned (.iface tx y)∧TakeRes c rn q w pg N d m t L wp tp gone tx y w'
end
section
set_option maxHeartbeats 4000000
def TakeIH (r rn q st tp wp:Nat) (S:SSt) (D:DSt) (kv:Value) (key:List UInt8) (d:Nat):Prop:=∀{m:Nat} {c:Nat→Nat} {w:World} {t:T} {v:Value} {gone:List Nat},Hd c r w tp st S D→Cl w c→WorkAt c q w wp tp gone→Rep c rn w (pgs D) D.blocks False d t v→Shape d m t→1≤m→Sorted (flat d t)→getL key (flat d t)≠none→BytesAt (Dt c) w kv key→gone.length+2*d≤1000000→
 Calls Tryz.prog 146 #[.pointer (some ⟨wp,0,none⟩),v,kv] w (TakeEnd c rn q w (pgs D) D.blocks d m t (delL key (flat d t)) wp tp gone)
end
section
set_option maxHeartbeats 2000000
structure RAccD (n0:Nat) (o o':Root) (gone gone':List Nat):Prop where
 pg:∀id,rcnt (.pg id) o'+gone'.count id=rcnt (.pg id) o+gone.count id
 cl:∀b j,rcnt (.cl b j) o'≤if b<n0 then rcnt (.cl b j) o else 1
 dirty:rootDirty o'≤rootDirty o+2*rootD o
def TDelRes (c:Nat→Nat) (r rn:Nat) (w:World) (tp st lm km:Nat) (S:SSt) (D:DSt) (o:Root) (lr ov:Value) (ls ld:Int) (gone:List Nat) (L:List KV) (i:Int) (w':World):Prop:=
 ∃ o' gone', rootL o' = L ∧ RootSh o' ∧ RAccD w.heap.size o o' gone gone' ∧
   ((i = 21 ∧ S.pages - S.state.length < rootDirty o' ∧ Fr C0 w w') ∨
    (i = 0 ∧ rootDirty o' ≤ S.pages - S.state.length ∧ Fr (fun b => c b = r) w w' ∧ ∃ gv' rv' c', Ag w.heap.size c c' ∧ Cl w' c' ∧ Hd c' r w' tp st S D ∧
     w'.heap[tp]?=some (.cells (TreeCells st rv' ((rootL o').length:Int) (rootD o':Int) lr ls ld lm gv' ov km) 139 (0,0))∧w'.ownsRow 0 3 1 gv' gone'.length (gone'.map natV)∧(∀b,gv'.ownBlock=some b→c' b=r)∧RootAt c' rn w' (pgs D) D.blocks False o' rv'))
end
section
set_option maxHeartbeats 4000000
end
section
set_option maxHeartbeats 2000000
end
section
set_option maxHeartbeats 2000000
theorem TreeAt.moveC {C:Nat→Prop} {c c':Nat→Nat} {r rn rm:Nat} {w w':World} {tp:Nat} {Z:TSt} {k:Nat} (h:TreeAt c r rn rm w tp Z k) (hf:Fr C w w') (ha:Ag w.heap.size c c') (hc:Cl w' c') (h0:∀b,C b→c' b≠0) (h1:∀b,C b→c' b≠r) (h2:∀b,C b→c' b≠rn) (h3:∀b,C b→c' b≠rm):TreeAt c' r rn rm w' tp Z k:=by
 obtain⟨st,lm,km,nr,lr,gv,ov,sn,h⟩:=h
 have hgo:∀b,gv.ownBlock=some b→c' b=r:=fun b hb=>(ha b (h.gr.lt b hb).2).trans (h.go b hb)
 have hoo:∀b,ov.ownBlock=some b→c' b=rm:=fun b hb=>(ha b (h.orow.lt b hb).2).trans (h.oo b hb)
 have hlm:c' lm=rm:=(ha _ h.live.lt).trans h.lmo
 have hkm:c' km=rm:=(ha _ h.kept.lt).trans h.kmo
 have hhd:=h.hd.ag ha
 exact⟨st,lm,km,nr,lr,gv,ov,sn,hhd.fr hf h1 h0,hc,hf.blk h.blk (fun e=>h1 _ e hhd.own),z0l h.gr hf (fun b hb e=>h1 b e (hgo b hb)),hgo,z0l h.orow hf (fun b hb e=>h3 b e (hoo b hb)),hoo,h.live.fr hf (fun e=>h3 _ e hlm),hlm,h.kept.fr hf (fun e=>h3 _ e hkm),hkm,h.lk,(h.now.ag ha).fr hf h2 h0,(h.last.ag ha).fr hf h2 h0,z7c h.sns h.bk.kp hf ha (fun b hb e h9=>h3 b e ((ha b hb).trans h9)) (fun b hb e h9=>h0 b e ((ha b hb).trans h9)),h.bk⟩
def OX (r r':Nat):Prop:=1≤r∧1≤r'∧(r+3≤r'∨r'+3≤r)
end
end Go.Proofs.YtidalepbkljkpaaGreat
