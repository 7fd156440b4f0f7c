/-
 A map's block as a list of entries (keys and elements as values):made,looked up,stored into,counted,gone through. Helper lemmas;no statement of the seat is proved here.
-/
import Derived.Test.YtngmgjodcnknoaaGreatDoorU1
import Derived.Maps.RangeWalk
import Derived.Maps.OwnSet
import Derived.Maps.OwnOps
import Derived.Sort.KeysCollected
import Derived.Test.YtngmgjodcnknoaaGreatDoorU9
import Derived.DeepKeys4
import Derived.Test.YtngmgjodcnknoaaGreatDoorU26
namespace Go.Proofs.YtngmgjodcnknoaaGreatDoor
open Go.Maps (Keyed)
open Go.WideShapes
open Go.WideElems (rg)
set_option maxHeartbeats 32000000
set_option linter.unusedVariables false
set_option linter.unusedSimpArgs false
abbrev HV (v:Value):Option (DataW Value×List MemPlace):=some (.held v,[])
def lkE (P:Program) (k:TypeId) (v:Value):Lit:=(keyOf P k v).getD (.bool false)
def imgE (P:Program) (k:TypeId) (x:Value×Value):Lit×DataW Value:=(lkE P k x.1,.held x.2)
def KeysOk (P:Program) (k:TypeId) (E:List (Value×Value)):Prop:=(∀x∈E,∃l,keyOf P k x.1=some l)∧E.Pairwise fun x y=>x.1≠y.1
theorem KeysOk.perm {P:Program} {k:TypeId} {E E':List (Value×Value)} (h:KeysOk P k E) (hp:E.Perm E'):KeysOk P k E':=
 ⟨fun x hx=>h.1 x (hp.mem_iff.2 hx),(hp.pairwise_iff fun {a b} (h:a.1≠b.1)=>h.symm).1 h.2⟩
theorem lkE_of {P:Program} {k:TypeId} {v:Value} {l:Lit} (h:keyOf P k v=some l):lkE P k v=l:=by unfold lkE;rw[h];rfl
theorem lkE_inj {P:Program} {k:TypeId} (K:Keyed P k) {a b:Value} {l m:Lit} (ha:keyOf P k a=some l) (hb:keyOf P k b=some m) (h:lkE P k a=lkE P k b):a=b:=by
 rw[lkE_of ha,lkE_of hb]at h
 subst h
 exact K.inj ha hb
def MapE (P:Program) (k:TypeId) (w:World) (b:Nat) (E:List (Value×Value)):Prop:=
 ∃es,w.ownsMap P k HV b E.length (.map es)∧es.Perm (E.map (imgE P k))∧KeysOk P k E
def MapR (P:Program) (k:TypeId) (w:World) (b r:Nat) (E rest:List (Value×Value)):Prop:=
 ∃es left cnt,w.ranges P k HV b r E.length (.map es) left cnt∧es.Perm (E.map (imgE P k))∧KeysOk P k E∧(∀x∈rest,x∈E)∧rest.Pairwise (fun x y=>x.1≠y.1)∧∀x∈E,left (lkE P k x.1)=true↔x∈rest
variable {P:Program} {k e t:TypeId} {w:World} {b r:Nat} {E rest:List (Value×Value)}
theorem MapE.block {w':World} (h:MapE P k w b E) (hb:w'.heap[b]? =w.heap[b]?):MapE P k w' b E:=by
 obtain⟨es,⟨ms,clock,h0,h1,h2,h3⟩,h4,h5⟩:=h
 exact⟨es,⟨ms,clock,hb.trans h0,h1,h2,h3⟩,h4,h5⟩
theorem MapE.is (h:MapE P k w b E):∃es clock,w.heap[b]? =some (.map es clock):=by
 obtain⟨es,⟨ms,clock,h0,h1,h2,h3⟩,h4,h5⟩:=h
 exact⟨ms,clock,h0⟩
theorem MapE.lt (h:MapE P k w b E):b< w.heap.size:=by
 obtain⟨es,h1,_⟩:=h;exact h1.lt
theorem MapE.made (w:World) (P:Program) (k:TypeId):MapE P k (w.alloc (.map #[] 0)) w.heap.size []:=
 ⟨[],World.ownsMap_made w P k HV,List.Perm.refl _,fun x hx=>by(cases hx),List.Pairwise.nil⟩
theorem MapE.apart {es:List (Lit×DataW Value)} (K:Keyed P k) (hp:es.Perm (E.map (imgE P k))) (hE:KeysOk P k E):es.Pairwise (fun p q=>p.1≠q.1):=by
 refine(hp.pairwise_iff fun {a b} (h:a.1≠b.1)=>h.symm).2 (List.pairwise_map.2 (hE.2.imp_of_mem fun {x y} hx hy hne e=>hne ?_))
 obtain⟨l,hl⟩:=hE.1 x hx
 obtain⟨m,hm⟩:=hE.1 y hy
 exact lkE_inj K hl hm e
theorem MapE.look (h:MapE P k w b E) (K:Keyed P k) (ht:P.underlying t=some (.map k e)) {z:Value} (hz:(zeroValue e).run P w= .ok z w) {key v:Value} {kl:Lit} (hkey:keyOf P k key=some kl)
  (hv:(key,v)∈E∨(∀x∈E,x.1≠key)∧v=z):(Instr.lookup t (.map (some b)) key false).run P w= .ok v w:=by
 obtain⟨es,h1,h2,h3⟩:=h
 obtain⟨u,ps,hrun,hu⟩:=h1.lookup K ht hz (zd:= .held z) (zp:= []) rfl hkey
 have hu1:DataW.held u=(DataW.map es).atKey kl (.held z):=congrArg Prod.fst (Option.some.inj hu)
 have hap:=MapE.apart K h2 h3
 rcases hv with hv | ⟨hv,rfl⟩
 ·
  have hm:(kl,DataW.held v)∈es:=h2.mem_iff.2 (List.mem_map.2 ⟨_,hv,by unfold imgE;rw[lkE_of hkey]⟩)
  rw[WideAt.atKey_mem _ (K.key hkey) hap hm]at hu1
  cases hu1;exact hrun
 ·
  have hn:(DataW.map es).atKey kl (.held v)= .held v:=by
   refine WideAt.atKey_none _ fun p hp e=> ?_
   obtain⟨x,hx,rfl⟩:=List.mem_map.1 (h2.mem_iff.1 hp)
   obtain⟨l,hl⟩:=h3.1 x hx
   exact hv x hx (lkE_inj K hl hkey (by rw[lkE_of hkey];exact e))
  rw[hn]at hu1
  cases hu1;exact hrun
theorem MapE.store (h:MapE P k w b E) (K:Keyed P k) (ht:P.underlying t=some (.map k e)) {E0:List (Value×Value)} {key v:Value} {kl:Lit} (hkey:keyOf P k key=some kl) (hE:E.Perm E0∨∃v0,E.Perm ((key,v0)::E0))
  (h0:∀x∈E0,x.1≠key) (hn:E.length< maxLen):∃w',(Instr.mapUpdate t (.map (some b)) key v).run P w= .ok () w'∧MapE P k w' b ((key,v)::E0)∧w.grownBy w' (some b):=by
 obtain⟨es,h1,h2,h3⟩:=h
 obtain⟨w',hrun,hown,hg⟩:=h1.update K ht hn (val:=v) (d:= .held v) (ps:= []) hkey rfl
 have hsub:∀x∈E0,x∈E:=fun x hx=>by
  rcases hE with hE | ⟨v0,hE⟩
  ·
   exact hE.mem_iff.2 hx
  ·
   exact hE.mem_iff.2 (List.mem_cons_of_mem _ hx)
 have hk0:KeysOk P k ((key,v)::E0):=by
  refine⟨fun x hx=> ?_,List.pairwise_cons.2 ⟨fun x hx e=>h0 x hx e.symm,?_⟩⟩
  ·
   rcases List.mem_cons.1 hx with rfl | hx
   ·
    exact⟨kl,hkey⟩
   ·
    exact h3.1 x (hsub x hx)
  ·
   rcases hE with hE | ⟨v0,hE⟩
   ·
    exact(h3.perm hE).2
   ·
    exact(List.pairwise_cons.1 (h3.perm hE).2).2
 have hfil:(es.filter fun p=> !p.1.sameKey kl).Perm (E0.map (imgE P k)):=by
  have hk:WideAt.IsKeyLit kl:=K.key hkey
  have hkeep:∀L:List (Value×Value),(∀x∈L,x∈E0)→(L.map (imgE P k)).filter (fun p=> !p.1.sameKey kl)=L.map (imgE P k):=fun L hL=>List.filter_eq_self.2 fun p hp=>by
   obtain⟨x,hx,rfl⟩:=List.mem_map.1 hp
   obtain⟨l,hl⟩:=h3.1 x (hsub x (hL x hx))
   cases hs:(imgE P k x).1.sameKey kl with
   | false=>rfl
   | true=>
    refine absurd (lkE_inj K hl hkey ?_) (h0 x (hL x hx))
    rw[lkE_of hkey]
    exact WideAt.sameKey_eq hs
  rcases hE with hE | ⟨v0,hE⟩
  ·
   have:=(h2.trans (hE.map _)).filter (fun p=> !p.1.sameKey kl)
   rw[hkeep E0 fun _ h=>h]at this
   exact this
  ·
   have:=(h2.trans (hE.map _)).filter (fun p=> !p.1.sameKey kl)
   rw[List.map_cons,List.filter_cons_of_neg,hkeep E0 fun _ h=>h]at this
   ·
    exact this
   ·
    have e1:(imgE P k (key,v0)).1=kl:=lkE_of hkey
    rw[e1,WideAt.sameKey_self hk];simp
 refine⟨w',hrun,⟨DataW.insert (kl,.held v) (es.filter fun p=> !p.1.sameKey kl),?_,?_,hk0⟩,hg⟩
 ·
  have hs:=hown.size_le
  obtain⟨ms,clock,a1,a2,a3,a4⟩:=hown
  refine⟨ms,clock,a1,a2,?_,a4⟩
  have e1:Maps.size (DataW.map ((ms.toList.map (rg P k HV)).foldr DataW.insert []))=ms.size:=by simp[Maps.size,length_sorted]
  rw[←e1,←a4]
  show(DataW.insert (kl,.held v) (es.filter fun p=> !p.1.sameKey kl)).length≤_
  rw[length_insert,hfil.length_eq,List.length_map,List.length_cons]
  exact Nat.le_refl _
 ·
  refine(insert_perm _ _).trans ?_
  rw[List.map_cons]
  have e1:imgE P k (key,v)=(kl,.held v):=by unfold imgE;rw[lkE_of hkey]
  rw[e1]
  exact hfil.cons _
theorem MapE.len (h:MapE P k w b E) (ht:P.underlying t=some (.map k e)) (ty:TypeId):(Builtin.len_ #[t] ty #[.map (some b)]).run P w= .ok (.int .i64 E.length) w:=by
 obtain⟨es,h1,h2,h3⟩:=h
 have:=h1.len ht ty
 rwa [show Maps.size (DataW.map es)=E.length by rw[Maps.size_eq,h2.length_eq,List.length_map]]at this
theorem MapR.kept {w':World} {row:Option Nat} (h:MapR P k w b r E rest) (hg:w.grownBy w' row) (hb:some b≠row) (hr:some r≠row):MapR P k w' b r E rest:=by
 obtain⟨es,left,cnt,h1,h2⟩:=h
 exact⟨es,left,cnt,h1.kept hg hb hr,h2⟩
theorem MapR.lt (h:MapR P k w b r E rest):r< w.heap.size:=by obtain⟨es,left,cnt,h1,h2⟩:=h;exact h1.lt
theorem MapE.range (h:MapE P k w b E) (K:Keyed P k) (ht:P.underlying t=some (.map k e)):
  ∃w',(Instr.range t (.map (some b))).run P w= .ok (.pointer (some ⟨w.heap.size,0,none⟩)) w'∧MapR P k w' b w.heap.size E E∧w.grownBy w' none∧w'.heap.size=w.heap.size+1:=by
 obtain⟨es,h1,h2,h3⟩:=h
 obtain⟨w',hrun,hr,hg,hs⟩:=h1.range K ht
 refine⟨w',hrun,⟨es,_,_,hr,h2,h3,fun _ h=>h,h3.2,fun x hx=>⟨fun _=>hx,fun _=> ?_⟩⟩,hg,hs⟩
 obtain⟨l,hl⟩:=h3.1 x hx
 exact List.any_eq_true.2 ⟨imgE P k x,h2.mem_iff.2 (List.mem_map.2 ⟨x,hx,rfl⟩),WideAt.sameKey_self (by show WideAt.IsKeyLit (lkE P k x.1);rw[lkE_of hl];exact K.key hl)⟩
theorem MapR.next (h:MapR P k w b r E rest) (K:Keyed P k) (ty:TypeId):
  (rest= []∧(Instr.next (.pointer (some ⟨r,0,none⟩)) false ty).run P w= .ok (.tuple #[.bool false]) w)∨
  ∃key v rest' w',rest.Perm ((key,v)::rest')∧(Instr.next (.pointer (some ⟨r,0,none⟩)) false ty).run P w= .ok (.tuple #[.bool true,key,v]) w'∧MapR P k w' b r E rest'∧w.grownBy w' (some r)∧w'.heap.size=w.heap.size∧w'.rangeLeft b r< w.rangeLeft b r∧
   (Instr.entry (.pointer (some ⟨r,0,none⟩))).run P w'= .ok (.tuple #[key,v]) w':=by
 obtain⟨es,left,cnt,h1,h2,h3,h4,h5,h6⟩:=h
 rcases h1.next K ty with⟨_,hl,hrun⟩ | ⟨key,v,kl,y,w',cnt',hkey,hlk,hv,hat,hrun,hrg,hlt,hg,hs,hen⟩
 ·
  refine .inl ⟨List.eq_nil_iff_forall_not_mem.2 fun x hx=> ?_,hrun⟩
  have:=(h6 x (h4 x hx)).2 hx
  rw[hl]at this;cases this
 ·
  obtain rfl:y=(.held v,[]):=(Option.some.inj hv).symm
  have hap:=MapE.apart K h2 h3
  obtain⟨p,hp,hpk⟩:∃p∈es,p.1=kl:=by
   cases hf:es.find? (fun p=>p.1.sameKey kl)with
   | some p=>exact⟨p,List.mem_of_find?_eq_some hf,WideAt.sameKey_eq (by simpa using List.find?_some hf)⟩
   | none=>
    have a1:=hat (.lit (.bool false))
    unfold DataW.atKey at a1
    simp only[hf]at a1
    cases a1
  obtain⟨x,hx,rfl⟩:=List.mem_map.1 (h2.mem_iff.1 hp)
  obtain⟨l,hl⟩:=h3.1 x hx
  have hxk:x.1=key:=lkE_inj K hl hkey (by rw[lkE_of hkey];exact hpk)
  have hxv:x.2=v:=by
   have a1:=hat .nil
   have hm:(kl,DataW.held x.2)∈es:=by rw[←hpk];exact hp
   rw[WideAt.atKey_mem _ (K.key hkey) hap hm]at a1
   have:DataW.held x.2= .held v:=a1
   cases this;rfl
  obtain⟨xk,xv⟩:=x
  simp only at hxk hxv
  subst hxk hxv
  have hr:(xk,xv)∈rest:=(h6 _ hx).1 (by show left (lkE P k xk)=true;rw[lkE_of hkey];exact hlk)
  obtain⟨s1,s2,rfl⟩:=List.append_of_mem hr
  have hperm:(s1++(xk,xv)::s2).Perm ((xk,xv)::(s1++s2)):=List.perm_middle
  have hpw:=(hperm.pairwise_iff fun {a b} (h:a.1≠b.1)=>h.symm).1 h5
  obtain⟨q1,q2⟩:=List.pairwise_cons.1 hpw
  refine .inr ⟨xk,xv,s1++s2,w',hperm,hrun,⟨es,_,_,hrg,h2,h3,fun x hx=>h4 x (hperm.mem_iff.2 (List.mem_cons_of_mem _ hx)),q2,fun x hx=> ?_⟩,hg,hs,?_,hen⟩
  ·
   have h7:=h6 x hx
   obtain⟨lx,hlx⟩:=h3.1 x hx
   rw[Bool.and_eq_true,h7,hperm.mem_iff,List.mem_cons]
   constructor
   ·
    rintro⟨rfl | hm,hne⟩
    ·
     rw[show lkE P k (xk,xv).1=kl from lkE_of hkey,WideAt.sameKey_self (K.key hkey)]at hne
     cases hne
    ·
     exact hm
   ·
    intro hm
    refine⟨.inr hm,?_⟩
    cases hs:(lkE P k x.1).sameKey kl with
    | false=>rfl
    | true=>exact absurd (lkE_inj K hkey hlx (by rw[lkE_of hkey];exact(WideAt.sameKey_eq hs).symm)) (q1 x hm)
  ·
   rw[hrg.left_eq,h1.left_eq];exact hlt
open Go.RowKit Go.WideMaps
set_option maxRecDepth 100000
theorem Rep.cellsKept {w w':World} {p:Nat→Prop} {v:Value} {d:DV} (h:Rep w p v d) (hk:∀b o u,w.cell? ⟨b,o,none⟩=some u→p b→w'.cell? ⟨b,o,none⟩=some u):Rep w' p v d:=by
 induction h with
 | leaf x hx=>exact .leaf x hx
 | nil z=>exact .nil z
 | emp ad z=>exact .emp ad z
 | row b off len cap z us es hok hl hu hcap hm hc hr ih=>
  exact .row b off len cap z us es hok hl hu hcap hm (fun k u hku=>hk _ _ _ (hc k u hku) (hok (by have:=(List.getElem?_eq_some_iff.1 hku).1;omega))) ih
theorem cell_notMap {w:World} {b o:Nat} {u:Value} {es:Array MapEntry} {clock:Nat} (hc:w.cell? ⟨b,o,none⟩=some u) (hm:w.heap[b]? =some (.map es clock)):False:=by
 simp[World.cell?,hm]at hc
theorem cell_kept {w w':World} {bm:Nat} {es:Array MapEntry} {clock:Nat} (hm:w.heap[bm]? =some (.map es clock)) (hg:w.grownBy w' (some bm)):∀b o u,w.cell? ⟨b,o,none⟩=some u→w'.cell? ⟨b,o,none⟩=some u:=fun b o u hc=>by
 have hne:b≠bm:=fun e=>by subst e;exact cell_notMap hc hm
 rw[←hc]
 exact World.cell?_of_block (hg.block b (World.block_lt_of_cell? w _ hc) fun e=>hne (Option.some.inj e))
abbrev Mk:=Int×Bytes×Bytes
abbrev IR:=Int×Int×Bytes×Bytes×Bytes
def rowP (x:IR):Bytes:=x.2.2.2.2
def rowM (x:IR):Mk:=(x.2.1,x.2.2.1,x.2.2.2.1)
def mkV (m:Mk):Value:= .agg #[.int .i64 m.1,.string (bs m.2.1),.string (bs m.2.2)]
def pathV (p:Bytes):Value:= .string (bs p)
theorem mkV_inj {a b:Mk} (h:mkV a=mkV b):a=b:=by
 obtain⟨x,y,z⟩:=a
 obtain⟨x',y',z'⟩:=b
 unfold mkV at h
 injection h with h
 have h1:=congrArg Array.toList h
 simp only[List.cons.injEq,Value.int.injEq,Value.string.injEq]at h1
 obtain⟨⟨_,e1⟩,e2,e3,_⟩:=h1
 rw[e1,bs_inj' e2,bs_inj' e3]
theorem pathV_inj {a b:Bytes} (h:pathV a=pathV b):a=b:=by unfold pathV at h;injection h with h;exact bs_inj' h
def versL (PS:List IR) (p:Bytes) (m:Mk):List Int:=(PS.filter fun x=>decide (rowP x=p∧rowM x=m)).map (·.1)
theorem versL_snoc (PS:List IR) (x:IR) (p:Bytes) (m:Mk):versL (PS++ [x]) p m=versL PS p m++(if rowP x=p∧rowM x=m then [x.1]else []):=by
 unfold versL
 rw[List.filter_append,List.map_append]
 congr 1
 by_cases h:rowP x=p∧rowM x=m
 ·
  rw[if_pos h,List.filter_cons_of_pos (by simp[h])];rfl
 ·
  rw[if_neg h,List.filter_cons_of_neg (by simp[h])];rfl
theorem versL_none {PS:List IR} {p:Bytes} (h:∀x∈PS,rowP x≠p) (m:Mk):versL PS p m= []:=by
 unfold versL
 rw[List.filter_eq_nil_iff.2 fun x hx=>by simp[h x hx]];rfl
theorem mem_versL {PS:List IR} {p:Bytes} {m:Mk} {v:Int}:v∈versL PS p m↔∃x∈PS,x.1=v∧rowP x=p∧rowM x=m:=by
 unfold versL
 simp only[List.mem_map,List.mem_filter,decide_eq_true_eq]
 constructor
 ·
  rintro⟨x,⟨h1,h2⟩,h3⟩;exact⟨x,h1,h3,h2⟩
 ·
  rintro⟨x,h1,h3,h2⟩;exact⟨x,⟨h1,h2⟩,h3⟩
def TS:TypeId:=9
def TM:TypeId:=86
theorem lawS:Keyed Tryz.prog TS:=Go.Maps.string_keyed kB
theorem laidOutI:laidOutB Tryz.prog=true:=by kernel_rfl
theorem lawM:Keyed Tryz.prog TM:=Keyed.of_law (deep_law_laid laidOutI (m:=4) kA (of_decide_eq_true kB) kB kB)
theorem keyStr (p:Bytes) (h:p.length≤9223372036854775807):keyOf Tryz.prog TS (pathV p)=some (.string p):=by
 have hu:Tryz.prog.underlying TS=some .string:=by kernel_rfl
 exact keyOf_string_mk hu (by rw[bs_size];exact h)
structure IXG (base:Nat) (w:World) (bx bo:Nat) (n:Int) (PS:List IR) (Q:List Bytes) (B:Bytes→Nat) (M:Bytes→List Mk) (V:Bytes→Mk→Value):Prop where
 box:w.heap[bx]? =some (.cells #[.map (some bo),.int .i64 n] 75 (0,0))
 bxb:base≤bx
 bob:base≤bo
 outer:MapE Tryz.prog TS w bo (Q.map fun p=>(pathV p,.map (some (B p))))
 qnd:Q.Nodup
 all:∀x∈PS,rowP x∈Q
 ib:∀p∈Q,base≤B p∧B p≠bo
 inner:∀p∈Q,MapE Tryz.prog TM w (B p) ((M p).map fun m=>(mkV m,V p m))
 mnd:∀p∈Q,(M p).Nodup
 ms:∀p∈Q,∀m,m∈M p↔versL PS p m≠ []
 vs:∀p∈Q,∀m∈M p,Rep w (fun c=>base≤c∧c≠bx) (V p m) (spansD (spansOf (flOf (versL PS p m))))
 inj:∀p∈Q,∀q∈Q,B p=B q→p=q
def IXS (base:Nat) (w:World) (bx:Nat) (PS:List IR):Prop:=∃bo Q B M V,IXG base w bx bo PS.length PS Q B M V∧∀p∈Q,∃x∈PS,rowP x=p
section
variable {base:Nat} {w w':World} {bx bo:Nat} {n:Int} {PS:List IR} {Q:List Bytes} {B:Bytes→Nat} {M:Bytes→List Mk} {V:Bytes→Mk→Value}
theorem IXG.kept (h:IXG base w bx bo n PS Q B M V) (hk:∀b,base≤b→b< w.heap.size→w'.heap[b]? =w.heap[b]?):IXG base w' bx bo n PS Q B M V:=
 {h with
  box:=(hk bx h.bxb (Array.getElem?_eq_some_iff.1 h.box).1).trans h.box
  outer:=h.outer.block (hk bo h.bob h.outer.lt)
  inner:=fun p hp=>(h.inner p hp).block (hk _ (h.ib p hp).1 (h.inner p hp).lt)
  vs:=fun p hp m hm=>(h.vs p hp m hm).kept fun b hb hlt=>hk b hb.1 hlt}
theorem IXG.ext (h:IXG base w bx bo n PS Q B M V) (hE:Ext w w'):IXG base w' bx bo n PS Q B M V:=h.kept fun b _ hb=>Below.block hE b hb
theorem IXG.bxo (h:IXG base w bx bo n PS Q B M V):bx≠bo:=fun e=>by
 obtain⟨es,c,hm⟩:=h.outer.is
 subst e
 rw[h.box]at hm;cases hm
theorem IXG.bxi (h:IXG base w bx bo n PS Q B M V) {p:Bytes} (hp:p∈Q):bx≠B p:=fun e=>by
 obtain⟨es,c,hm⟩:=(h.inner p hp).is
 rw[←e,h.box]at hm;cases hm
theorem IXG.path (h:IXG base w bx bo n PS Q B M V) {p0:Bytes} (hp:p0∉Q) {bn:Nat} (hbn:base≤bn) (hnew:MapE Tryz.prog TM w bn []) (hne:bn≠bo) (hni:∀p∈Q,B p≠bn)
  (ho:MapE Tryz.prog TS w' bo ((pathV p0,.map (some bn))::Q.map fun p=>(pathV p,.map (some (B p))))) (hg:w.grownBy w' (some bo)):
  IXG base w' bx bo n PS (p0::Q) (fun q=>if q=p0 then bn else B q) (fun q=>if q=p0 then []else M q) V:=by
 have hQ:∀q∈Q,q≠p0:=fun q hq e=>hp (e ▸ hq)
 obtain⟨es,c,hmap⟩:=h.outer.is
 have hcell:=cell_kept hmap hg
 have hall:∀x∈PS,rowP x≠p0:=fun x hx e=>hp (e ▸ h.all x hx)
 refine⟨(hg.block bx (Array.getElem?_eq_some_iff.1 h.box).1 fun e=>h.bxo (Option.some.inj e)).trans h.box,h.bxb,h.bob,?_,List.nodup_cons.2 ⟨hp,h.qnd⟩,fun x hx=>List.mem_cons_of_mem _ (h.all x hx),fun q hq=> ?_,fun q hq=> ?_,fun q hq=> ?_,fun q hq m=> ?_,fun q hq m hm=> ?_,fun p hp' q hq e=> ?_⟩
 ·
  have e1:(p0::Q).map (fun p=>(pathV p,Value.map (some (if p=p0 then bn else B p))))=(pathV p0,.map (some bn))::Q.map fun p=>(pathV p,.map (some (B p))):=by
   rw[List.map_cons,if_pos rfl]
   congr 1
   exact List.map_congr_left fun q hq=>by rw[if_neg (hQ q hq)]
  rw[e1];exact ho
 ·
  rcases List.mem_cons.1 hq with rfl | hq
  ·
   rw[if_pos rfl];exact⟨hbn,hne⟩
  ·
   rw[if_neg (hQ q hq)];exact h.ib q hq
 ·
  rcases List.mem_cons.1 hq with rfl | hq
  ·
   rw[if_pos rfl,if_pos rfl];exact hnew.block (hg.block bn hnew.lt fun e=>hne (Option.some.inj e))
  ·
   rw[if_neg (hQ q hq),if_neg (hQ q hq)];exact(h.inner q hq).block (hg.block _ (h.inner q hq).lt fun e=>(h.ib q hq).2 (Option.some.inj e))
 ·
  rcases List.mem_cons.1 hq with rfl | hq
  ·
   rw[if_pos rfl];exact List.nodup_nil
  ·
   rw[if_neg (hQ q hq)];exact h.mnd q hq
 ·
  rcases List.mem_cons.1 hq with rfl | hq
  ·
   rw[if_pos rfl,versL_none hall];simp
  ·
   rw[if_neg (hQ q hq)];exact h.ms q hq m
 ·
  rcases List.mem_cons.1 hq with rfl | hq
  ·
   rw[if_pos rfl]at hm;cases hm
  ·
   rw[if_neg (hQ q hq)]at hm;exact(h.vs q hq m hm).cellsKept fun b o u hc _=>hcell b o u hc
 ·
  rcases List.mem_cons.1 hp' with e1 | hp'
  ·
   rcases List.mem_cons.1 hq with e2 | hq
   ·
    rw[e1,e2]
   ·
    rw[if_pos e1,if_neg (hQ q hq)]at e;exact absurd e.symm (hni q hq)
  ·
   rcases List.mem_cons.1 hq with e2 | hq
   ·
    rw[if_neg (hQ p hp'),if_pos e2]at e;exact absurd e (hni p hp')
   ·
    rw[if_neg (hQ p hp'),if_neg (hQ q hq)]at e;exact h.inj p hp' q hq e
theorem IXG.look (h:IXG base w bx bo n PS Q B M V) {p0:Bytes} (hp:p0∈Q) (m0:Mk):∃u,Rep w (fun c=>base≤c∧c≠bx) u (spansD (spansOf (flOf (versL PS p0 m0))))∧
  ((mkV m0,u)∈((M p0).map fun m=>(mkV m,V p0 m))∨(∀x∈((M p0).map fun m=>(mkV m,V p0 m)),x.1≠mkV m0)∧u= .slice none 0 0):=by
 by_cases hm:m0∈M p0
 ·
  exact⟨V p0 m0,h.vs p0 hp m0 hm,.inl (List.mem_map.2 ⟨m0,hm,rfl⟩)⟩
 ·
  refine⟨.slice none 0 0,?_,.inr ⟨fun x hx e=> ?_,rfl⟩⟩
  ·
   have:versL PS p0 m0= []:=Decidable.byContradiction fun hne=>hm ((h.ms p0 hp m0).2 hne)
   rw[this]
   exact .nil _
  ·
   obtain⟨m,hm',rfl⟩:=List.mem_map.1 hx
   exact hm (mkV_inj e ▸ hm')
theorem erase_perm {L:List Mk} (m0:Mk) (hnd:L.Nodup):(m0∉L∧L.erase m0=L)∨L.Perm (m0::L.erase m0):=by
 by_cases h:m0∈L
 ·
  exact .inr (List.perm_cons_erase h)
 ·
  exact .inl ⟨h,List.erase_of_not_mem h⟩
theorem IXG.row (h:IXG base w bx bo n PS Q B M V) {p0:Bytes} (hp:p0∈Q) {m0:Mk} {v:Int} {sv:Value} (hsv:Rep w (fun c=>base≤c∧c≠bx) sv (spansD (spansOf (flOf (versL PS p0 m0++ [v])))))
  (hi:MapE Tryz.prog TM w' (B p0) ((mkV m0,sv)::((M p0).erase m0).map fun m=>(mkV m,V p0 m))) (hg:w.grownBy w' (some (B p0))) (x:IR) (hx1:x.1=v) (hx2:rowP x=p0) (hx3:rowM x=m0):
  IXG base w' bx bo n (PS++ [x]) Q B (fun q=>if q=p0 then m0::(M p0).erase m0 else M q) (fun q m=>if q=p0∧m=m0 then sv else V q m):=by
 obtain⟨es,c,hmap⟩:=(h.inner p0 hp).is
 have hcell:=cell_kept hmap hg
 have hnd:=h.mnd p0 hp
 have hne:∀m∈(M p0).erase m0,m≠m0:=fun m hm e=>by
  rw[e]at hm
  exact(List.Nodup.not_mem_erase hnd) hm
 have hmem:∀m,m∈m0::(M p0).erase m0↔m=m0∨m∈M p0:=fun m=>by
  rw[List.mem_cons]
  constructor
  ·
   rintro(e | hm)
   ·
    exact .inl e
   ·
    exact .inr (List.mem_of_mem_erase hm)
  ·
   rintro(e | hm)
   ·
    exact .inl e
   ·
    by_cases e:m=m0
    ·
     exact .inl e
    ·
     exact .inr ((List.mem_erase_of_ne e).2 hm)
 refine⟨(hg.block bx (Array.getElem?_eq_some_iff.1 h.box).1 fun e=>h.bxi hp (Option.some.inj e)).trans h.box,h.bxb,h.bob,h.outer.block (hg.block bo h.outer.lt fun e=>(h.ib p0 hp).2 (Option.some.inj e).symm),h.qnd,fun y hy=> ?_,h.ib,fun q hq=> ?_,fun q hq=> ?_,fun q hq m=> ?_,fun q hq m hm=> ?_,h.inj⟩
 ·
  rcases List.mem_append.1 hy with hy | hy
  ·
   exact h.all y hy
  ·
   rw[List.mem_singleton]at hy;rw[hy,hx2];exact hp
 ·
  by_cases e:q=p0
  ·
   subst e
   rw[if_pos rfl]
   have e1:(m0::(M q).erase m0).map (fun m=>(mkV m,if q=q∧m=m0 then sv else V q m))=(mkV m0,sv)::((M q).erase m0).map fun m=>(mkV m,V q m):=by
    rw[List.map_cons,if_pos ⟨rfl,rfl⟩]
    congr 1
    exact List.map_congr_left fun m hm=>by rw[if_neg fun h=>hne m hm h.2]
   rw[e1];exact hi
  ·
   rw[if_neg e]
   have e1:(M q).map (fun m=>(mkV m,if q=p0∧m=m0 then sv else V q m))=(M q).map fun m=>(mkV m,V q m):=List.map_congr_left fun m hm=>by rw[if_neg fun h=>e h.1]
   rw[e1]
   exact(h.inner q hq).block (hg.block _ (h.inner q hq).lt fun e2=>e (h.inj q hq p0 hp (Option.some.inj e2)))
 ·
  by_cases e:q=p0
  ·
   subst e
   rw[if_pos rfl]
   exact List.nodup_cons.2 ⟨List.Nodup.not_mem_erase hnd,hnd.erase _⟩
  ·
   rw[if_neg e];exact h.mnd q hq
 ·
  rw[versL_snoc]
  by_cases e:q=p0
  ·
   subst e
   rw[if_pos rfl,hmem]
   by_cases e2:m=m0
   ·
    subst e2
    rw[if_pos ⟨hx2,hx3⟩]
    simp
   ·
    rw[if_neg fun h=>e2 (h.2.symm.trans hx3),List.append_nil,h.ms q hq m]
    simp[e2]
  ·
   rw[if_neg e,if_neg fun h=>e (h.1.symm.trans hx2),List.append_nil];exact h.ms q hq m
 ·
  rw[versL_snoc]
  by_cases e:q=p0
  ·
   subst e
   rw[if_pos rfl,hmem]at hm
   by_cases e2:m=m0
   ·
    subst e2
    rw[if_pos ⟨rfl,rfl⟩,if_pos ⟨hx2,hx3⟩,hx1]
    exact hsv.cellsKept fun b o u hc _=>hcell b o u hc
   ·
    rw[if_neg fun h=>e2 h.2,if_neg fun h=>e2 (h.2.symm.trans hx3),List.append_nil]
    exact(h.vs q hq m (hm.resolve_left e2)).cellsKept fun b o u hc _=>hcell b o u hc
  ·
   rw[if_neg e]at hm
   rw[if_neg fun h=>e h.1,if_neg fun h=>e (h.1.symm.trans hx2),List.append_nil]
   exact(h.vs q hq m hm).cellsKept fun b o u hc _=>hcell b o u hc
theorem IXG.count (h:IXG base w bx bo n PS Q B M V) (n':Int):IXG base (w.setCell ⟨bx,1,none⟩ (.int .i64 n')) bx bo n' PS Q B M V:=by
 have hk:∀b,b≠bx→(w.setCell ⟨bx,1,none⟩ (.int .i64 n')).heap[b]? =w.heap[b]? :=fun b hb=>Below.heap_setCell _ _ _ _ hb
 refine {h with box:= ?_,outer:=h.outer.block (hk _ (Ne.symm h.bxo)),inner:=fun p hp=>(h.inner p hp).block (hk _ (Ne.symm (h.bxi hp))),vs:=fun p hp m hm=> ?_}
 ·
  show(w.heap.modify bx _)[bx]? =_
  rw[Array.getElem?_modify,if_pos rfl,h.box];rfl
 ·
  exact(h.vs p hp m hm).kept fun b hb _=>hk b hb.2
end
theorem wf_kind {k:Int} (h:1≤k∧k≤9):(Lit.int .i64 k).wf=true:=WalkArith.wf_i64 kA
theorem lits_int (n:Nat) (k:Int) (h:1≤k∧k≤9):Tryz.prog.keyLits (n+1) 3 [.int .i64 k]=some [.int .i64 k]:=by
 unfold Program.keyLits
 have hu:Tryz.prog.underlying 3=some (.int .i64):=by kernel_rfl
 rw[hu]
 simp[wf_kind h]
theorem lits_str (n:Nat) (s:Bytes) (h:s.length≤9223372036854775807):Tryz.prog.keyLits (n+1) 9 [.string (bs s)]=some [.string s]:=by
 unfold Program.keyLits
 have hu:Tryz.prog.underlying 9=some .string:=by kernel_rfl
 rw[hu]
 have:(bs s).size≤maxLen:=by rw[bs_size];exact h
 simp only[if_pos this]
 rfl
theorem keyMk (m:Mk) (h1:1≤m.1∧m.1≤9) (h2:m.2.1.length≤9223372036854775807) (h3:m.2.2.length≤9223372036854775807):∃l,keyOf Tryz.prog TM (mkV m)=some l:=by
 have hu:Tryz.prog.underlying TM=_:=Tryz.underlying86
 have hk:Tryz.prog.keyType TM=true:=by kernel_rfl
 have hc:Tryz.prog.cellsOf TM=3:=by kernel_rfl
 have hs:Tryz.prog.types.size+1=0+1+1+(Tryz.prog.types.size - 1):=by
  have:1≤Tryz.prog.types.size:=of_decide_eq_true kB
  omega
 unfold keyOf
 rw[hu]
 simp only[hk,Bool.true_and]
 have hf:(mkV m).formed Tryz.prog TM=true:=by
  unfold mkV Value.formed
  simp only[hu,hc];rfl
 rw[if_pos hf]
 have hl:Tryz.prog.keyLits (Tryz.prog.types.size+1) TM (mkV m).cells.toList=some [.int .i64 m.1,.string m.2.1,.string m.2.2]:=by
  obtain⟨n,hn⟩:∃n,Tryz.prog.types.size=n+1:=⟨Tryz.prog.types.size - 1,by have:1≤Tryz.prog.types.size:=of_decide_eq_true kB;omega⟩
  rw[hn]
  unfold Program.keyLits
  rw[hu]
  have hi:Tryz.prog.cellsOf 3=1:=by kernel_rfl
  have hst:Tryz.prog.cellsOf 9=1:=by kernel_rfl
  have e1:=lits_int n m.1 h1
  have e2:=lits_str n m.2.1 h2
  have e3:=lits_str n m.2.2 h3
  simp[mkV,Value.cells,hc,hi,hst,e1,e2,e3]
 rw[hl]
 exact⟨_,rfl⟩
open Go.RowKit
theorem exec_lookup {P:Program} {ev:Operand→Value} {oi:Oper} {t:TypeId} {x y:Operand} {m k u:Value} {W:World} (ho:oi.op= .lookup t x y false) (hx:ev x=m) (hy:ev y=k) (h:(Instr.lookup t m k false).run P W= .ok u W):
  (execOp ev oi).run P W= .ok (.value u) W:=by
 unfold execOp
 simp only[ho,hx,hy,Sem.run_bind,h,Result.andThen_ok,Sem.run_pure]
theorem exec_mapUpdate {P:Program} {ev:Operand→Value} {oi:Oper} {t:TypeId} {x y z:Operand} {m k u:Value} {W W':World} (ho:oi.op= .mapUpdate t x y z) (hx:ev x=m) (hy:ev y=k) (hz:ev z=u) (h:(Instr.mapUpdate t m k u).run P W= .ok () W'):
  (execOp ev oi).run P W= .ok .skip W':=by
 unfold execOp
 simp only[ho,hx,hy,hz,Sem.run_bind,h,Result.andThen_ok,Sem.run_pure]
theorem zeroSp (w:World):(zeroValue 28).run Tryz.prog w= .ok (.slice none 0 0) w:=by kernel_rfl
theorem zeroMp (w:World):(zeroValue 120).run Tryz.prog w= .ok (.map none) w:=by kernel_rfl
structure IK (base bx:Nat) (w w':World):Prop where
 below:Below base w w'
 cells:∀(b:Nat) (cs:Array Value) (t:TypeId) (fz:Nat×Nat),b≠bx→w.heap[b]? =some (.cells cs t fz)→w'.heap[b]? =some (.cells cs t fz)
theorem IK.refl (base bx:Nat) (w:World):IK base bx w w:=⟨Below.refl _ _,fun _ _ _ _ _ h=>h⟩
theorem IK.ext {base bx:Nat} {a w w':World} (h:IK base bx a w) (hb:base≤a.heap.size) (hE:Ext w w'):IK base bx a w':=
 ⟨h.below.trans (hE.mono (Nat.le_trans hb h.below.size)),fun b cs t fz hne hc=>(Below.block hE b (blk_lt (h.cells b cs t fz hne hc))).trans (h.cells b cs t fz hne hc)⟩
theorem IK.trans {base bx:Nat} {a b c:World} (h:IK base bx a b) (k:IK base bx b c):IK base bx a c:=⟨h.below.trans k.below,fun x cs t fz hne hc=>k.cells x cs t fz hne (h.cells x cs t fz hne hc)⟩
theorem IK.map {base bx bm:Nat} {a w w':World} {k:TypeId} {E:List (Value×Value)} (h:IK base bx a w) (hb:base≤bm) (hm:MapE Tryz.prog k w bm E) (hg:w.grownBy w' (some bm)):IK base bx a w':=by
 obtain⟨es,c,hmap⟩:=hm.is
 refine⟨h.below.trans ⟨hg.os,hg.tape,hg.output,hg.size,fun i hi=> ?_⟩,fun b cs t fz hne hc=> ?_⟩
 ·
  by_cases hlt:i< w.heap.size
  ·
   exact hg.block i hlt fun e=>by have:=Option.some.inj e;omega
  ·
   exact absurd hm.lt kA
 ·
  have h1:=h.cells b cs t fz hne hc
  exact(hg.block b (blk_lt h1) fun e=>by
   have:=Option.some.inj e
   subst this
   rw[hmap]at h1;cases h1).trans h1
theorem IK.set {base bx o:Nat} {a w:World} (h:IK base bx a w) (hb:base≤bx) (u:Value):IK base bx a (w.setCell ⟨bx,o,none⟩ u):=
 ⟨h.below.setCell (p:=⟨bx,o,none⟩) hb u,fun b cs t fz hne hc=>(Below.heap_setCell _ _ _ _ hne).trans (h.cells b cs t fz hne hc)⟩
theorem mlen {base:Nat} {w:World} {bx bo:Nat} {n:Int} {PS:List IR} {Q:List Bytes} {B:Bytes→Nat} {M:Bytes→List Mk} {V:Bytes→Mk→Value} (h:IXG base w bx bo n PS Q B M V) {p:Bytes} (hp:p∈Q):(M p).length≤PS.length:=by
 have hs:∀m∈M p,m∈PS.map rowM:=fun m hm=>by
  obtain⟨v,hv⟩:∃v,v∈versL PS p m:=List.exists_mem_of_ne_nil _ ((h.ms p hp m).1 hm)
  obtain⟨x,hx,_,_,e⟩:=mem_versL.1 hv
  exact List.mem_map.2 ⟨x,hx,e⟩
 have:=List.Nodup.length_le_of_subset (h.mnd p hp) hs
 rwa [List.length_map]at this
theorem qlen {base:Nat} {w:World} {bx bo:Nat} {n:Int} {PS:List IR} {Q:List Bytes} {B:Bytes→Nat} {M:Bytes→List Mk} {V:Bytes→Mk→Value} (h:IXG base w bx bo n PS Q B M V) (hQ:∀p∈Q,∃x∈PS,rowP x=p):Q.length≤PS.length:=by
 have:=List.Nodup.length_le_of_subset h.qnd (l₂:=PS.map rowP) fun p hp=>by
  obtain⟨x,hx,e⟩:=hQ p hp
  exact List.mem_map.2 ⟨x,hx,e⟩
 rwa [List.length_map]at this
theorem xput_any (base:Nat) (w:World) (bx:Nat) (PS:List IR) (q:QN) (v:Int) (h:IXS base w bx PS) (hk:1≤q.kind∧q.kind≤9) (hq:qF q) (hv:1≤v∧v≤12) (hPS:∀x∈PS,1≤x.1∧x.1≤12) (hL:PS.length≤100000000) (hbs:base≤w.heap.size):
  Calls Tryz.prog 27 #[.pointer (some ⟨bx,0,none⟩),.agg #[.int .i64 q.kind,.string (bs q.name),.string (bs q.text),.int .i64 q.par,.int .i64 q.fin,.string (bs q.path)],.int .i64 v] w fun e w'=>e= .returned (.tuple #[])∧IXS base w' bx (PS++ [(v,q.kind,q.name,q.text,q.path)])∧IK base bx w w':=by
 obtain⟨bo,Q,B,M,V,hG,hQ⟩:=h
 obtain⟨wz,hwz⟩:∃X,w.alloc (.cells #[.int .i64 q.kind,.string (bs q.name),.string (bs q.text),.int .i64 q.par,.int .i64 q.fin,.string (bs q.path)] 81)=X:=⟨_,rfl⟩
 have hE:Ext w wz:=by rw[←hwz];exact(Ext.refl _).alloc _
 have hb:wz.heap[w.heap.size]? =some (.cells [.int .i64 q.kind,.string (bs q.name),.string (bs q.text),.int .i64 q.par,.int .i64 q.fin,.string (bs q.path)].toArray 81 (0,0)):=by rw[←hwz];exact blk_new w _
 have hbxw:=blk_lt hG.box
 have G1:=hG.ext hE
 have hbx:=blk_lt G1.box
 have hlq:=blk_lt hb
 have x0:=blk_cell G1.box (k:=0) rfl
 have b5:=blk_cell hb (k:=5) rfl
 have hql:=qlen hG hQ
 have hkp:=keyStr q.path (by have:=hq.2.2;omega)
 have hsub:w.heap.size≠bx:=by omega
 have hmm:= @run_makeMap Tryz.prog
 have hq1:∀(b:Nat) (W:World),(binOp .eql 120 (.map (some b)) (.map none)).run Tryz.prog W= .ok (.bool false) W:=fun b W=>run_eql_map_nil W _ _ _ (some b) (show Tryz.prog.underlying 120=some (.map 86 28) by kernel_rfl)
 have hq2:∀(W:World),(binOp .eql 120 (.map none) (.map none)).run Tryz.prog W= .ok (.bool true) W:=fun W=>run_eql_map_nil W _ _ _ none (show Tryz.prog.underlying 120=some (.map 86 28) by kernel_rfl)
 by_cases hp:q.path∈Q
 ·
  have HLK:=Lh fun X (hX:Ext wz X)=>(G1.outer.block (w':=X) (Below.block hX _ G1.outer.lt)).look lawS (t:=73) (e:=120) kB (z:= .map none) (zeroMp X) hkp (v:= .map (some (B q.path))) (.inl (List.mem_map.2 ⟨q.path,hp,rfl⟩))
  have HE:=Lh (And.intro hE hb)
  have HG1:=Lh G1
  have HQP:=Lh (And.intro hQ (And.intro hp hG.bxb))
  clear hE hb G1 hQ hp hG hkp
  go_enter Tryz.func27,Tryz.ntmps27
  go_wp2_with fail
  refine rg_begin (S:=Sx wz) kB (Sx.begin _) ?_
  have hSa:Sx wz (World.drew wz):=(Sx.begin _)
  refine gT 0 8 (.pointer (some ⟨bx,0,none⟩)) hSa ?_
  simp only[Act.put,sA,sZ,sS]
  refine gT 1 9 (.pointer (some ⟨bx,0,none⟩)) hSa ?_
  simp only[Act.put,sA,sZ,sS]
  refine gT 2 10 (.pointer (some ⟨bx,0,none⟩)) hSa ?_
  simp only[Act.put,sA,sZ,sS]
  refine gT 3 11 (.map (some bo)) hSa ?_ (hv:=fun w' hs=>by(have h0:=hs.cell hbx x0;go_simp))
  simp only[Act.put,sA,sZ,sS]
  refine gT 4 12 (.pointer (some ⟨w.heap.size,5,none⟩)) hSa ?_
  simp only[Act.put,sA,sZ,sS]
  refine gT 5 13 (.string (bs q.path)) hSa ?_ (hv:=fun w' hs=>by(have h0:=hs.cell hlq b5;go_simp))
  simp only[Act.put,sA,sZ,sS]
  refine gT 6 14 (.map (some (B q.path))) hSa ?_ (hv:=fun w' hs=>by exact exec_lookup rfl rfl rfl (HLK.out w' hs))
  simp only[Act.put,sA,sZ,sS]
  refine gT 7 6 (.map (some (B q.path))) hSa ?_
  simp only[Act.put,sA,sZ,sS]
  refine rg_done kB ?_
  have hEd:Ext wz (World.drew wz):=hSa
  obtain⟨W,hW⟩:∃W,World.drew wz=W:=⟨_,rfl⟩
  rw[hW]at hEd⊢
  obtain⟨bi,hbi⟩:∃b,B q.path=b:=⟨_,rfl⟩
  rw[hbi]
  obtain⟨Q',B',M',hQe⟩:∃Q' B' M',Q'=Q∧B'=B∧M'=M:=⟨_,_,_,rfl,rfl,rfl⟩
  have HG:Hid (IXG base W bx bo PS.length PS Q' B' M' V):=Lh (by rw[hQe.1,hQe.2.1,hQe.2.2];exact HG1.out.ext hEd)
  have HQ0:Hid (q.path∈Q'∧B' q.path=bi):=Lh (by rw[hQe.1,hQe.2.1];exact⟨HQP.out.2.1,hbi⟩)
  have HQQ:Hid (∀p∈Q',p=q.path∨∃x∈PS,rowP x=p):=Lh (by rw[hQe.1];exact fun p hp=> .inr (HQP.out.1 p hp))
  have HBW:Hid (W.heap[w.heap.size]? =some (.cells [.int .i64 q.kind,.string (bs q.name),.string (bs q.text),.int .i64 q.par,.int .i64 q.fin,.string (bs q.path)].toArray 81 (0,0))):=Lh (blk_ext HE.out.2 hEd)
  have HK:Hid (IK base bx w W):=Lh ((IK.refl base bx w).ext hbs (HE.out.1.trans hEd))
  clear HLK hSa hW hbi hQe hEd x0 b5 hmm
  have HU:=HG.out.look HQ0.out.1 (q.kind,q.name,q.text)
  obtain⟨uv,hur,hul⟩:=HU
  have hxW:=HG.out.box
  have hlW:w.heap.size< W.heap.size:=blk_lt HBW.out
  have m0':=blk_cell HBW.out (k:=0) rfl;have m1':=blk_cell HBW.out (k:=1) rfl;have m2':=blk_cell HBW.out (k:=2) rfl
  obtain⟨W2,hW2⟩:∃X,W.alloc (.cells #[.int .i64 q.kind,.string (bs q.name),.string (bs q.text)] 86)=X:=⟨_,rfl⟩
  have hE2:Ext W W2:=by rw[←hW2];exact(Ext.refl _).alloc _
  have hb2:W2.heap[W.heap.size]? =some (.cells [.int .i64 q.kind,.string (bs q.name),.string (bs q.text)].toArray 86 (0,0)):=by rw[←hW2];exact blk_new W _
  have hlm:=blk_lt hb2
  have m0:=blk_cell hb2 (k:=0) rfl;have m1:=blk_cell hb2 (k:=1) rfl;have m2:=blk_cell hb2 (k:=2) rfl
  obtain⟨kl,hkl⟩:=keyMk (q.kind,q.name,q.text) kA (by have:=hq.1;simp only;omega) (by have:=hq.2.1;simp only;omega)
  obtain⟨LV,hLV⟩:∃L,versL PS q.path (q.kind,q.name,q.text)=L:=⟨_,rfl⟩
  rw[hLV]at hur
  have hLVb:∀u∈LV,1≤u∧u≤12:=fun u hu=>by
   rw[←hLV]at hu
   obtain⟨x,hx,rfl,_⟩:=mem_versL.1 hu
   exact hPS x hx
  have hin:=HG.out.inner q.path HQ0.out.1
  rw[HQ0.out.2]at hin
  have hbi:=hin.lt
  have HLU:=Lh fun X (hX:Ext W2 X)=>(hin.block (w':=X) (Below.block (hE2.trans hX) _ hbi)).look lawM (t:=120) (e:=28) kB (z:= .slice none 0 0) (zeroSp X) hkl hul
  have HAD:=Lh fun X (hX:Ext W2 X)=>(xadd_any LV v hLVb hv _ uv X (hur.ext (hE2.trans hX))).mono fun e w' h=>(show Ret (fun c=>base≤c∧c≠bx) (spansD (spansOf (flOf (LV++ [v])))) e w'∧Ext X w' from⟨h.1.ok fun b hb=>by
   have h1:=(hE2.trans hX).size
   have h2:=blk_lt hxW
   have h3:=HG.out.bxb
   exact⟨by omega,by omega⟩,h.2⟩)
  have HSV:=Lh fun X (hX:Ext W2 X) (sv:Value)=>(hin.block (w':=X) (Below.block (hE2.trans hX) _ hbi)).store lawM (t:=120) (e:=28) kB (E0:=((M' q.path).erase (q.kind,q.name,q.text)).map fun m=>(mkV m,V q.path m)) (key:=mkV (q.kind,q.name,q.text)) (v:=sv) hkl
   (by
    rcases erase_perm (q.kind,q.name,q.text) (HG.out.mnd q.path HQ0.out.1)with⟨_,e⟩ | hp
    ·
     rw[e];exact .inl (List.Perm.refl _)
    ·
     exact .inr ⟨_,hp.map _⟩)
   (fun x hx e=>by
    obtain⟨m,hm,rfl⟩:=List.mem_map.1 hx
    rw[mkV_inj e]at hm
    exact List.Nodup.not_mem_erase (HG.out.mnd q.path HQ0.out.1) hm)
   (by rw[List.length_map];exact Nat.lt_of_le_of_lt (mlen HG.out HQ0.out.1) kC)
  have HW2:=Lh (And.intro hE2 (And.intro hLV hlW))
  clear hur hul hxW hlW hE2 hb2 hkl hLV hLVb hin hbi
  go_wp2_with fail
  clear m0' m1' m2'
  refine rg_cut (S:=Sx W2) 7 kB kB kB kB (Sx.begin _) ?_
  have hSc:Sx W2 (World.drew W2):=(Sx.begin _)
  refine gT 0 32 (.map (some bi)) hSc ?_
  simp only[Act.put,sA,sZ,sS]
  refine gT 1 33 (.agg #[.int .i64 q.kind,.string (bs q.name),.string (bs q.text)]) hSc ?_ (hv:=fun w' hs=>by(have h0:=hs.cell hlm m0;have h1:=hs.cell hlm m1;have h2:=hs.cell hlm m2;go_simp))
  simp only[Act.put,sA,sZ,sS]
  refine gT 2 34 (.map (some bi)) hSc ?_
  simp only[Act.put,sA,sZ,sS]
  refine gT 3 35 (.agg #[.int .i64 q.kind,.string (bs q.name),.string (bs q.text)]) hSc ?_ (hv:=fun w' hs=>by(have h0:=hs.cell hlm m0;have h1:=hs.cell hlm m1;have h2:=hs.cell hlm m2;go_simp))
  simp only[Act.put,sA,sZ,sS]
  refine gT 4 36 (uv) hSc ?_ (hv:=fun w' hs=>by exact exec_lookup rfl rfl rfl (HLU.out w' hs))
  simp only[Act.put,sA,sZ,sS]
  refine gT 5 37 (.int .i64 v) hSc ?_
  simp only[Act.put,sA,sZ,sS]
  refine rg_call 6 (some 38) 54 #[uv,.int .i64 v] rfl rfl kB (by rfl) (fun w'=>by first | rfl | go_simp) (R:=fun u w'=>∃(sa:Option Addr) (sn sc:Nat),u= .slice sa sn sc∧Rep w' (fun c=>base≤c∧c≠bx) u (spansD (spansOf (flOf (LV++ [v]))))∧Ext (World.drew W2) w') ?_ ?_
  ·
   refine(HAD.out (World.drew W2) hSc).mono ?_
   rintro e w' ⟨⟨sv,rfl,hsv⟩,hE⟩
   exact⟨_,rfl,by obtain⟨sa,sn,sc,rfl,_⟩:=hsv.slice;exact⟨sa,sn,sc,rfl,hsv,hE⟩⟩
  rintro _ wrc1 ⟨sa,sn,sc,rfl,hsv,hBrc1⟩
  have hSc1:=hSc.ext hBrc1
  refine⟨hSc1,?_⟩
  simp only[Act.put,sA,sZ,sS]
  refine rg_done kB ?_
  refine rg_go 1 #[true,true,true,true,true,true,true,false] kB kB fun m=> ?_
  obtain⟨wn2,hst2,hM2,hg2⟩:=HSV.out wrc1 hSc1 (.slice sa sn sc)
  have HST2:=Lh hst2
  have HF2:=Lh (And.intro hM2 (And.intro hg2 (And.intro hsv (show Ext W2 wrc1 from hSc1))))
  clear hst2 hM2 hg2 hsv
  refine rg_write 7 none (wn2) rfl rfl kB (by rfl) (exec_mapUpdate rfl rfl rfl rfl HST2.out) trivial ?_
  simp only[Act.put,sA,sZ,sS]
  refine rg_done kB ?_
  have hG2:=((HG.out.ext (HW2.out.1.trans HF2.out.2.2.2)).row HQ0.out.1 (m0:=(q.kind,q.name,q.text)) (v:=v) (sv:= .slice sa sn sc) (by rw[HW2.out.2.1];exact HF2.out.2.2.1) (by rw[HQ0.out.2];exact HF2.out.1) (by rw[HQ0.out.2];exact HF2.out.2.1) (v,q.kind,q.name,q.text,q.path) rfl rfl rfl)
  have y1:=blk_cell hG2.box (k:=1) rfl
  have f1:=blk_free (k:=1) hG2.box
  have hw:IntKind.i64.wrap ((PS.length:Int)+1)=(PS.length:Int)+1:=IntWalk.i64_in _ kA
  have HG2:=Lh hG2
  clear hG2 m0 m1 m2
  go_wp2_with fail
  refine bodyPost_end (results_none rfl _ _ _) rfl ?_
  have HC:=HG2.out.count ((PS.length:Int)+1)
  have e1:((PS++ [((v,q.kind,q.name,q.text,q.path):IR)]).length:Int)=(PS.length:Int)+1:=by simp
  refine⟨rfl,⟨bo,Q',B',_,_,by rw[e1];exact HC,fun p hp=> ?_⟩,?_⟩
  ·
   rcases HQQ.out p hp with e | ⟨x,hx,e⟩
   ·
    exact⟨_,List.mem_append_right _ (List.mem_singleton.2 rfl),e.symm⟩
   ·
    exact⟨x,List.mem_append_left _ hx,e⟩
  ·
   exact((HK.out.ext hbs (HW2.out.1.trans HF2.out.2.2.2)).map (by rw[←HQ0.out.2];exact(HG.out.ib _ HQ0.out.1).1) (HG.out.ext (HW2.out.1.trans HF2.out.2.2.2) |>.inner q.path HQ0.out.1 |> fun h=>by rw[HQ0.out.2]at h;exact h) HF2.out.2.1).set HG.out.bxb _
 ·
  have HLK:=Lh fun X (hX:Ext wz X)=>(G1.outer.block (w':=X) (Below.block hX _ G1.outer.lt)).look lawS (t:=73) (e:=120) kB (z:= .map none) (zeroMp X) hkp (v:= .map none) (.inr ⟨fun x hx e=>by
   obtain⟨p,hp',rfl⟩:=List.mem_map.1 hx
   exact hp (pathV_inj e ▸ hp'),rfl⟩)
  have HE:=Lh (And.intro hE hb)
  have HG1:=Lh G1
  have HQP:=Lh (And.intro hQ (And.intro hp (And.intro hG.bxb hkp)))
  clear hE hb G1 hQ hp hG hkp
  go_enter Tryz.func27,Tryz.ntmps27
  go_wp2_with fail
  refine rg_begin (S:=Sx wz) kB (Sx.begin _) ?_
  have hSa:Sx wz (World.drew wz):=(Sx.begin _)
  refine gT 0 8 (.pointer (some ⟨bx,0,none⟩)) hSa ?_
  simp only[Act.put,sA,sZ,sS]
  refine gT 1 9 (.pointer (some ⟨bx,0,none⟩)) hSa ?_
  simp only[Act.put,sA,sZ,sS]
  refine gT 2 10 (.pointer (some ⟨bx,0,none⟩)) hSa ?_
  simp only[Act.put,sA,sZ,sS]
  refine gT 3 11 (.map (some bo)) hSa ?_ (hv:=fun w' hs=>by(have h0:=hs.cell hbx x0;go_simp))
  simp only[Act.put,sA,sZ,sS]
  refine gT 4 12 (.pointer (some ⟨w.heap.size,5,none⟩)) hSa ?_
  simp only[Act.put,sA,sZ,sS]
  refine gT 5 13 (.string (bs q.path)) hSa ?_ (hv:=fun w' hs=>by(have h0:=hs.cell hlq b5;go_simp))
  simp only[Act.put,sA,sZ,sS]
  refine gT 6 14 (.map none) hSa ?_ (hv:=fun w' hs=>by exact exec_lookup rfl rfl rfl (HLK.out w' hs))
  simp only[Act.put,sA,sZ,sS]
  refine gT 7 6 (.map none) hSa ?_
  simp only[Act.put,sA,sZ,sS]
  refine rg_done kB ?_
  have hEd:Ext wz (World.drew wz):=hSa
  obtain⟨wy,hwy⟩:∃W,World.drew wz=W:=⟨_,rfl⟩
  rw[hwy]at hEd⊢
  obtain⟨wm,hwm⟩:∃W,wy.alloc (.map #[] 0)=W:=⟨_,rfl⟩
  have hEm:Ext wy wm:=by rw[←hwm];exact(Ext.refl _).alloc _
  have hnew:MapE Tryz.prog TM wm wy.heap.size []:=by rw[←hwm];exact MapE.made wy _ _
  have hEz:=hEd.trans hEm
  have hlz:wz.heap.size≤wy.heap.size:=hEd.size
  have x0':=hEz.keep hbx x0
  have b5':=hEz.keep hlq b5
  have hbx':=Nat.lt_of_lt_of_le hbx hEz.size
  have hlq':=Nat.lt_of_lt_of_le hlq hEz.size
  have hGm:=HG1.out.ext hEz
  have hne:wy.heap.size≠bo:=by have:=HG1.out.outer.lt;omega
  have hni:∀p∈Q,B p≠wy.heap.size:=fun p hp=>by have:=(HG1.out.inner p hp).lt;omega
  obtain⟨wn,hst,hMn,hgn⟩:=(hGm.outer.block (w':=World.drew wm) rfl).store lawS (t:=73) (e:=120) kB (E0:=Q.map fun p=>(pathV p,.map (some (B p)))) (key:=pathV q.path) (v:= .map (some wy.heap.size)) HQP.out.2.2.2 (.inl (List.Perm.refl _))
   (fun x hx e=>by
    obtain⟨p,hp',rfl⟩:=List.mem_map.1 hx
    exact HQP.out.2.1 (pathV_inj e ▸ hp')) (by rw[List.length_map];unfold maxLen;omega)
  have HST:=Lh hst
  have hGn:=(hGm.kept (w':=World.drew wm) fun b _ _=>rfl).path HQP.out.2.1 (bn:=wy.heap.size) (by have:=HQP.out.2.2.1;omega) (hnew.block rfl) hne hni hMn hgn
  have HGN:=Lh (And.intro hGn (And.intro hgn (And.intro (hGm.outer.block (w':=World.drew wm) rfl) (hEz.drew))))
  have HL:=Lh hlz
  clear x0 b5 hbx hlq hEd hEm hnew hEz hlz hGm hne hni hst hMn hgn hGn HLK hSa
  have x0:=x0';have b5:=b5';have hbx:=hbx';have hlq:=hlq'
  clear x0' b5' hbx' hlq'
  go_wp2_with fail
  refine rg_cut (S:=Sx wm) 7 kB kB kB kB (Sx.begin _) ?_
  have hSb:Sx wm (World.drew wm):=(Sx.begin _)
  refine gT 0 18 (.pointer (some ⟨bx,0,none⟩)) hSb ?_
  simp only[Act.put,sA,sZ,sS]
  refine gT 1 19 (.pointer (some ⟨bx,0,none⟩)) hSb ?_
  simp only[Act.put,sA,sZ,sS]
  refine gT 2 20 (.pointer (some ⟨bx,0,none⟩)) hSb ?_
  simp only[Act.put,sA,sZ,sS]
  refine gT 3 21 (.map (some bo)) hSb ?_ (hv:=fun w' hs=>by(have h0:=hs.cell hbx x0;go_simp))
  simp only[Act.put,sA,sZ,sS]
  refine gT 4 22 (.pointer (some ⟨w.heap.size,5,none⟩)) hSb ?_
  simp only[Act.put,sA,sZ,sS]
  refine gT 5 23 (.string (bs q.path)) hSb ?_ (hv:=fun w' hs=>by(have h0:=hs.cell hlq b5;go_simp))
  simp only[Act.put,sA,sZ,sS]
  refine gT 6 24 (.map (some wy.heap.size)) hSb ?_
  simp only[Act.put,sA,sZ,sS]
  refine rg_done kB ?_
  refine rg_go 1 #[true,true,true,true,true,true,true,false] kB kB fun m=> ?_
  refine rg_write 7 none (wn) rfl rfl kB (by rfl) (exec_mapUpdate rfl rfl rfl rfl HST.out) trivial ?_
  simp only[Act.put,sA,sZ,sS]
  refine rg_done kB ?_
  obtain⟨W,hW⟩:∃W,W=wn:=⟨_,rfl⟩
  rw[←hW]
  obtain⟨bi,hbi⟩:∃b,wy.heap.size=b:=⟨_,rfl⟩
  obtain⟨Q',B',M',hQe⟩:∃Q' B' M',Q'=q.path::Q∧B'=(fun p=>if p=q.path then wy.heap.size else B p)∧M'=(fun p=>if p=q.path then []else M p):=⟨_,_,_,rfl,rfl,rfl⟩
  have HG:Hid (IXG base W bx bo PS.length PS Q' B' M' V):=Lh (by rw[hQe.1,hQe.2.1,hQe.2.2,hW];exact HGN.out.1)
  have HQ0:Hid (q.path∈Q'∧B' q.path=bi):=Lh (by rw[hQe.1,hQe.2.1,←hbi];exact⟨List.mem_cons_self,by simp⟩)
  have HQQ:Hid (∀p∈Q',p=q.path∨∃x∈PS,rowP x=p):=Lh (by
   rw[hQe.1]
   intro p hp
   rcases List.mem_cons.1 hp with e | hp
   ·
    exact .inl e
   ·
    exact .inr (HQP.out.1 p hp))
  have HKD:=(IK.refl base bx w).ext hbs (HE.out.1.trans HGN.out.2.2.2)
  have HKN:=HKD.map HGN.out.1.bob HGN.out.2.2.1 HGN.out.2.1
  have HBW:Hid (W.heap[w.heap.size]? =some (.cells [.int .i64 q.kind,.string (bs q.name),.string (bs q.text),.int .i64 q.par,.int .i64 q.fin,.string (bs q.path)].toArray 81 (0,0))):=Lh (by
   rw[hW]
   have h1:=blk_ext HE.out.2 HGN.out.2.2.2
   obtain⟨es,c,hmap⟩:=HGN.out.2.2.1.is
   exact(HGN.out.2.1.block _ (blk_lt h1) fun e=>by
    have:=Option.some.inj e
    rw[this,hmap]at h1;cases h1).trans h1)
  have HK:Hid (IK base bx w W):=Lh (by rw[hW];exact HKN)
  rw[hbi]
  clear HST HGN HKD HKN hQe hW hbi x0 b5 hbx hlq hwm hmm
  have HU:=HG.out.look HQ0.out.1 (q.kind,q.name,q.text)
  obtain⟨uv,hur,hul⟩:=HU
  have hxW:=HG.out.box
  have hlW:w.heap.size< W.heap.size:=blk_lt HBW.out
  have m0':=blk_cell HBW.out (k:=0) rfl;have m1':=blk_cell HBW.out (k:=1) rfl;have m2':=blk_cell HBW.out (k:=2) rfl
  obtain⟨W2,hW2⟩:∃X,W.alloc (.cells #[.int .i64 q.kind,.string (bs q.name),.string (bs q.text)] 86)=X:=⟨_,rfl⟩
  have hE2:Ext W W2:=by rw[←hW2];exact(Ext.refl _).alloc _
  have hb2:W2.heap[W.heap.size]? =some (.cells [.int .i64 q.kind,.string (bs q.name),.string (bs q.text)].toArray 86 (0,0)):=by rw[←hW2];exact blk_new W _
  have hlm:=blk_lt hb2
  have m0:=blk_cell hb2 (k:=0) rfl;have m1:=blk_cell hb2 (k:=1) rfl;have m2:=blk_cell hb2 (k:=2) rfl
  obtain⟨kl,hkl⟩:=keyMk (q.kind,q.name,q.text) kA (by have:=hq.1;simp only;omega) (by have:=hq.2.1;simp only;omega)
  obtain⟨LV,hLV⟩:∃L,versL PS q.path (q.kind,q.name,q.text)=L:=⟨_,rfl⟩
  rw[hLV]at hur
  have hLVb:∀u∈LV,1≤u∧u≤12:=fun u hu=>by
   rw[←hLV]at hu
   obtain⟨x,hx,rfl,_⟩:=mem_versL.1 hu
   exact hPS x hx
  have hin:=HG.out.inner q.path HQ0.out.1
  rw[HQ0.out.2]at hin
  have hbi:=hin.lt
  have HLU:=Lh fun X (hX:Ext W2 X)=>(hin.block (w':=X) (Below.block (hE2.trans hX) _ hbi)).look lawM (t:=120) (e:=28) kB (z:= .slice none 0 0) (zeroSp X) hkl hul
  have HAD:=Lh fun X (hX:Ext W2 X)=>(xadd_any LV v hLVb hv _ uv X (hur.ext (hE2.trans hX))).mono fun e w' h=>(show Ret (fun c=>base≤c∧c≠bx) (spansD (spansOf (flOf (LV++ [v])))) e w'∧Ext X w' from⟨h.1.ok fun b hb=>by
   have h1:=(hE2.trans hX).size
   have h2:=blk_lt hxW
   have h3:=HG.out.bxb
   exact⟨by omega,by omega⟩,h.2⟩)
  have HSV:=Lh fun X (hX:Ext W2 X) (sv:Value)=>(hin.block (w':=X) (Below.block (hE2.trans hX) _ hbi)).store lawM (t:=120) (e:=28) kB (E0:=((M' q.path).erase (q.kind,q.name,q.text)).map fun m=>(mkV m,V q.path m)) (key:=mkV (q.kind,q.name,q.text)) (v:=sv) hkl
   (by
    rcases erase_perm (q.kind,q.name,q.text) (HG.out.mnd q.path HQ0.out.1)with⟨_,e⟩ | hp
    ·
     rw[e];exact .inl (List.Perm.refl _)
    ·
     exact .inr ⟨_,hp.map _⟩)
   (fun x hx e=>by
    obtain⟨m,hm,rfl⟩:=List.mem_map.1 hx
    rw[mkV_inj e]at hm
    exact List.Nodup.not_mem_erase (HG.out.mnd q.path HQ0.out.1) hm)
   (by rw[List.length_map];exact Nat.lt_of_le_of_lt (mlen HG.out HQ0.out.1) kC)
  have HW2:=Lh (And.intro hE2 (And.intro hLV hlW))
  clear hur hul hxW hlW hE2 hb2 hkl hLV hLVb hin hbi
  go_wp2_with fail
  clear m0' m1' m2'
  refine rg_cut (S:=Sx W2) 7 kB kB kB kB (Sx.begin _) ?_
  have hSc:Sx W2 (World.drew W2):=(Sx.begin _)
  refine gT 0 32 (.map (some bi)) hSc ?_
  simp only[Act.put,sA,sZ,sS]
  refine gT 1 33 (.agg #[.int .i64 q.kind,.string (bs q.name),.string (bs q.text)]) hSc ?_ (hv:=fun w' hs=>by(have h0:=hs.cell hlm m0;have h1:=hs.cell hlm m1;have h2:=hs.cell hlm m2;go_simp))
  simp only[Act.put,sA,sZ,sS]
  refine gT 2 34 (.map (some bi)) hSc ?_
  simp only[Act.put,sA,sZ,sS]
  refine gT 3 35 (.agg #[.int .i64 q.kind,.string (bs q.name),.string (bs q.text)]) hSc ?_ (hv:=fun w' hs=>by(have h0:=hs.cell hlm m0;have h1:=hs.cell hlm m1;have h2:=hs.cell hlm m2;go_simp))
  simp only[Act.put,sA,sZ,sS]
  refine gT 4 36 (uv) hSc ?_ (hv:=fun w' hs=>by exact exec_lookup rfl rfl rfl (HLU.out w' hs))
  simp only[Act.put,sA,sZ,sS]
  refine gT 5 37 (.int .i64 v) hSc ?_
  simp only[Act.put,sA,sZ,sS]
  refine rg_call 6 (some 38) 54 #[uv,.int .i64 v] rfl rfl kB (by rfl) (fun w'=>by first | rfl | go_simp) (R:=fun u w'=>∃(sa:Option Addr) (sn sc:Nat),u= .slice sa sn sc∧Rep w' (fun c=>base≤c∧c≠bx) u (spansD (spansOf (flOf (LV++ [v]))))∧Ext (World.drew W2) w') ?_ ?_
  ·
   refine(HAD.out (World.drew W2) hSc).mono ?_
   rintro e w' ⟨⟨sv,rfl,hsv⟩,hE⟩
   exact⟨_,rfl,by obtain⟨sa,sn,sc,rfl,_⟩:=hsv.slice;exact⟨sa,sn,sc,rfl,hsv,hE⟩⟩
  rintro _ wrc1 ⟨sa,sn,sc,rfl,hsv,hBrc1⟩
  have hSc1:=hSc.ext hBrc1
  refine⟨hSc1,?_⟩
  simp only[Act.put,sA,sZ,sS]
  refine rg_done kB ?_
  refine rg_go 1 #[true,true,true,true,true,true,true,false] kB kB fun m=> ?_
  obtain⟨wn2,hst2,hM2,hg2⟩:=HSV.out wrc1 hSc1 (.slice sa sn sc)
  have HST2:=Lh hst2
  have HF2:=Lh (And.intro hM2 (And.intro hg2 (And.intro hsv (show Ext W2 wrc1 from hSc1))))
  clear hst2 hM2 hg2 hsv
  refine rg_write 7 none (wn2) rfl rfl kB (by rfl) (exec_mapUpdate rfl rfl rfl rfl HST2.out) trivial ?_
  simp only[Act.put,sA,sZ,sS]
  refine rg_done kB ?_
  have hG2:=((HG.out.ext (HW2.out.1.trans HF2.out.2.2.2)).row HQ0.out.1 (m0:=(q.kind,q.name,q.text)) (v:=v) (sv:= .slice sa sn sc) (by rw[HW2.out.2.1];exact HF2.out.2.2.1) (by rw[HQ0.out.2];exact HF2.out.1) (by rw[HQ0.out.2];exact HF2.out.2.1) (v,q.kind,q.name,q.text,q.path) rfl rfl rfl)
  have y1:=blk_cell hG2.box (k:=1) rfl
  have f1:=blk_free (k:=1) hG2.box
  have hw:IntKind.i64.wrap ((PS.length:Int)+1)=(PS.length:Int)+1:=IntWalk.i64_in _ kA
  have HG2:=Lh hG2
  clear hG2 m0 m1 m2
  go_wp2_with fail
  refine bodyPost_end (results_none rfl _ _ _) rfl ?_
  have HC:=HG2.out.count ((PS.length:Int)+1)
  have e1:((PS++ [((v,q.kind,q.name,q.text,q.path):IR)]).length:Int)=(PS.length:Int)+1:=by simp
  refine⟨rfl,⟨bo,Q',B',_,_,by rw[e1];exact HC,fun p hp=> ?_⟩,?_⟩
  ·
   rcases HQQ.out p hp with e | ⟨x,hx,e⟩
   ·
    exact⟨_,List.mem_append_right _ (List.mem_singleton.2 rfl),e.symm⟩
   ·
    exact⟨x,List.mem_append_left _ hx,e⟩
  ·
   exact((HK.out.ext hbs (HW2.out.1.trans HF2.out.2.2.2)).map (by rw[←HQ0.out.2];exact(HG.out.ib _ HQ0.out.1).1) (HG.out.ext (HW2.out.1.trans HF2.out.2.2.2) |>.inner q.path HQ0.out.1 |> fun h=>by rw[HQ0.out.2]at h;exact h) HF2.out.2.1).set HG.out.bxb _
end Go.Proofs.YtngmgjodcnknoaaGreatDoor
