/-
 What an argument reads as,opened:slices of structs of slices,as plain data,with their bulk. Helper lemmas;no statement of the seat is proved here.
-/
import Derived.Test.YtngmgjodcnknoaaGreatDoorU9
import Derived.OpenShut
import Derived.Test.YtngmgjodcnknoaaGreatDoorRows
import Derived.Deep.Slices
import Derived.Test.YtngmgjodcnknoaaGreatDoorCards
import Derived.Test.YtngmgjodcnknoaaGreatDoorTie
import Derived.ReadAgain
import Derived.ChangeSame
import Derived.ProofKit
import Derived.Deep.DeepHandedRow
import Derived.Deep.DeepWitnessRowRef
import Derived.Lib.LaidTab
import Derived.Lib.LaidU8
import Derived.LaidMore
import Derived.Shelf.Vars
namespace Go.Proofs.YtngmgjodcnknoaaGreatDoor
open Go.RowKit Go.Deep
set_option maxHeartbeats 32000000
set_option linter.unusedVariables false
theorem cell_spot {w:World} {a:Addr} {v:Value} (h:w.cell? a=some v):a.spot=none:=by
 unfold World.cell? at h
 split at h
 ·
  split at h
  ·
   cases h
  ·
   rename_i h2;simpa using h2
 ·
  cases h
def QLd {H:Type} {α:Type} (Q:α→DataW H→Prop) (l:List α) (es:List (DataW H)):Prop:=es.length=l.length∧∀(i:Nat) (y:α) (e:DataW H),l[i]? =some y→es[i]? =some e→Q y e
def QSd {H:Type} {α:Type} (Q:α→DataW H→Prop) (l:List α) (d:DataW H):Prop:=(l= []∧d= .nil)∨∃es sp,d= .slice es sp∧QLd Q l es
theorem pieces {α:Type} (z:Nat) (F:Nat→List α):∀(n:Nat),(∀i,i< n→(F i).length=z)→((List.range n).flatMap F).length=n*z∧∀(k:Nat) (u:α),((List.range n).flatMap F)[k]? =some u→∃i j,i< n∧j< z∧k=i*z+j∧(F i)[j]? =some u
 | 0,_=>by simp
 | n+1,h=>by
  obtain⟨h1,h2⟩:=pieces z F n fun i hi=>h i kA
  rw[List.range_succ,List.flatMap_append]
  have e1: [n].flatMap F=F n:=by simp
  rw[e1]
  refine⟨by rw[List.length_append,h1,h n kA,Nat.add_mul];omega,fun k u hk=> ?_⟩
  by_cases hlt:k< n*z
  ·
   rw[List.getElem?_append_left (by rw[h1];exact hlt)]at hk
   obtain⟨i,j,a,b,c,d⟩:=h2 k u hk
   exact⟨i,j,by omega,b,c,d⟩
  ·
   rw[List.getElem?_append_right (by rw[h1];omega),h1]at hk
   have hz:k - n*z< z:=by have:=(List.getElem?_eq_some_iff.1 hk).1;rw[h n kA]at this;exact this
   exact⟨n,k - n*z,by omega,hz,by omega,hk⟩
theorem reps_pieces {w:World} {p:Nat→Prop} {α:Type} (f:α→List DV) (CS:Nat→List Value) (Y:Nat→α):∀(n:Nat),(∀i,i< n→Reps w p (CS i) (f (Y i)))→Reps w p ((List.range n).flatMap CS) (((List.range n).map Y).flatMap f)
 | 0,_=>Reps.nil _ _
 | n+1,h=>by
  rw[List.range_succ,List.flatMap_append,List.map_append,List.flatMap_append]
  have e1: [n].flatMap CS=CS n:=by simp
  have e2:([n].map Y).flatMap f=f (Y n):=by simp
  rw[e1,e2]
  exact(reps_pieces f CS Y n fun i hi=>h i kA).append (h n kA)
section
variable {H:Type} {enc:TypeId×Value→H} {P:Program} {w:World} {base:Nat} {held:Bool}
theorem open_rep {α:Type} [Inhabited α] {f:α→List DV} {z:Nat} (hf:∀y,(f y).length=z) {t e:TypeId} (Q:α→DataW H→Prop) (ht:P.underlying t=some (.slice e)) (hc:P.cellsOf e=z) (hz:0< z) {fuel:Nat} {cs:List Value} {x:DataW H×List MemPlace}
  (hel:∀n cs x,n< fuel→DataW.trod enc P w base (fun _=>true) held n e cs=some x→∃y:α,Reps w (fun _=>True) cs (f y)∧Q y x.1)
  (h:DataW.trod enc P w base (fun _=>true) held fuel t cs=some x):∃(v:Value) (l:List α),cs= [v]∧Rep w (fun _=>True) v (.s z (l.flatMap f))∧QSd Q l x.1:=by
 rcases DataW.trod_slice ht h with⟨rfl,rfl⟩ | ⟨a,len,cap,elems,rest,n,hn,rfl,rfl,hb,hl,hm,hlen,hall,hsp,hns⟩
 ·
  exact⟨_,[],rfl,.nil z,.inl ⟨rfl,rfl⟩⟩
 ·
  have each:∀i,i< len→∃q:α×List Value,w.cells? base (a.add (i*z)) z=some q.2∧Reps w (fun _=>True) q.2 (f q.1)∧∀e',elems[i]? =some e'→Q q.1 e'.1:=fun i hi=>by
   have h1:=hall i hi
   have h2:elems[i]? =some elems[i]:=List.getElem?_eq_getElem kA
   rw[h2]at h1
   obtain⟨cs',h3,h4⟩:=Option.bind_eq_some_iff.1 h1
   obtain⟨y,h5,h6⟩:=hel n cs' _ kA h4
   rw[hc]at h3
   exact⟨(y,cs'),h3,h5,fun e' he'=>by rw[h2]at he';cases he';exact h6⟩
  obtain⟨q,hq⟩:=choose_lt (α:=α×List Value) each
  refine⟨_,(List.range len).map fun i=>(q i).1,rfl,?_,.inr ⟨_,_,rfl,by rw[List.length_map,List.length_map,List.length_range,hlen],fun i y e' hy he=> ?_⟩⟩
  rotate_left
  ·
   rw[List.getElem?_map]at hy he
   obtain⟨i',hi',rfl⟩:=Option.map_eq_some_iff.1 hy
   obtain⟨e2,he2,rfl⟩:=Option.map_eq_some_iff.1 he
   have hlt:=(List.getElem?_eq_some_iff.1 hi').1
   rw[List.length_range]at hlt
   rw[List.getElem?_range hlt]at hi'
   cases hi'
   exact(hq i hlt).2.2 e2 he2
  ·
   have hcell:∀i,i< len→(q i).2.length=z∧∀j u,(q i).2[j]? =some u→w.cell? ((a.add (i*z)).add j)=some u:=fun i hi=>by
    obtain⟨_,h2,h3⟩:=World.cells?_some (hq i hi).1
    refine⟨h2,fun j u hj=> ?_⟩
    have hjz:j< z:=by have:=(List.getElem?_eq_some_iff.1 hj).1;omega
    rw[h3 j hjz];exact hj
   have hadd0:a.add (0*z)=a:=by rw[Nat.zero_mul];unfold Addr.add;rw[if_pos rfl]
   have hspot:0< cap→a.spot=none:=fun hcap=>by
    by_cases hl0:0< len
    ·
     obtain⟨h2,h3⟩:=hcell 0 hl0
     have h4:=h3 0 _ (List.getElem?_eq_getElem kA)
     rw[hadd0]at h4
     have e:a.add 0=a:=by unfold Addr.add;rw[if_pos rfl]
     rw[e]at h4
     exact cell_spot h4
    ·
     have hs:=(hsp rfl).2 0 kA
     have hlen0:len=0:=by omega
     have hr:rest.length=cap - len:=(hsp rfl).1
     rw[List.getElem?_eq_getElem kA]at hs
     obtain⟨cs',h3,_⟩:=Option.bind_eq_some_iff.1 hs
     rw[hlen0,hc,show 0+0=0 from rfl,hadd0]at h3
     obtain⟨_,h5,h6⟩:=World.cells?_some h3
     have h7:=h6 0 hz
     have e:a.add 0=a:=by unfold Addr.add;rw[if_pos rfl]
     rw[e,List.getElem?_eq_getElem kA]at h7
     exact cell_spot h7
   by_cases hcap:0< cap
   ·
    obtain⟨b,o,sp⟩:=a
    have:=hspot hcap
    simp only at this
    subst this
    obtain⟨hpl,hpc⟩:=pieces z (fun i=>(q i).2) len fun i hi=>(hcell i hi).1
    have hr:=reps_pieces f (fun i=>(q i).2) (fun i=>(q i).1) len fun i hi=>(hq i hi).2.1
    refine .row b o len cap z ((List.range len).flatMap fun i=>(q i).2) _ (fun _=>trivial) (by rw[flat_len f z hf,List.length_map,List.length_range]) hpl hl (by unfold maxLen at hm;omega) (fun k u hk=> ?_) hr.2
    obtain⟨i,j,hi,hj,rfl,hu⟩:=hpc k u hk
    have h8:=(hcell i hi).2 j u hu
    have e1:((⟨b,o,none⟩:Addr).add (i*z)).add j=⟨b,o+(i*z+j),none⟩:=by
     have ha:∀(o j:Nat),(⟨b,o,none⟩:Addr).add j=⟨b,o+j,none⟩:=fun o j=>by unfold Addr.add;split<;> simp_all
     rw[ha,ha,Nat.add_assoc]
    rw[e1]at h8;exact h8
   ·
    obtain rfl:cap=0:=by omega
    obtain rfl:len=0:=by omega
    exact .emp a z
theorem open_fields {t:TypeId} {fs:Array Field} (ht:P.underlying t=some (.struct fs)) (hsz:P.cellsOf t=fs.size) (hoff:∀(i:Nat) (f:Field),fs[i]? =some f→f.offset=i∧P.cellsOf f.type=1) {spare:Nat→Bool} {fuel:Nat} {cs:List Value} {x:DataW H×List MemPlace}
  (h:DataW.trod enc P w base spare held fuel t cs=some x):∃(xs:List (DataW H×List MemPlace)) (n:Nat),n< fuel∧x.1= .agg (xs.map (·.1))∧cs.length=fs.size∧xs.length=fs.size∧
   ∀(i:Nat) (f:Field),fs[i]? =some f→∃v y,cs[i]? =some v∧xs[i]? =some y∧DataW.trod enc P w base spare held n f.type [v]=some y:=by
 obtain⟨xs,n,h1,h2,h3,h4,h5⟩:=DataW.trod_struct ht h
 refine⟨xs,n,by omega,by rw[h2],by rw[h3,hsz],h4,fun i f hf=> ?_⟩
 have hi:i< fs.size:=by
  rcases Nat.lt_or_ge i fs.size with h' | h'
  ·
   exact h'
  ·
   rw[Array.getElem?_eq_none h']at hf;cases hf
 obtain⟨ho,hcf⟩:=hoff i f hf
 have h6:=h5 i f hf
 rw[ho,hcf,List.getElem?_eq_getElem (show i< xs.length by omega)]at h6
 have hics:i< cs.length:=by rw[h3,hsz];exact hi
 have e:(cs.drop i).take 1= [cs[i]]:=by rw[List.drop_eq_getElem_cons hics];rfl
 rw[e]at h6
 exact⟨cs[i],xs[i],List.getElem?_eq_getElem hics,List.getElem?_eq_getElem (show i< xs.length by omega),h6⟩
end
section
variable {H:Type} {enc:TypeId×Value→H} {w:World} {base:Nat} {held:Bool}
instance:Inhabited Attr:=⟨⟨[],[]⟩⟩
instance:Inhabited Step:=⟨⟨[],[]⟩⟩
instance:Inhabited Rule:=⟨⟨[],[]⟩⟩
instance:Inhabited Node:=⟨zeroN⟩
def QBd (y:Bytes) (d:DataW H):Prop:=d= .lit (.string y)
def QAd (a:Attr) (d:DataW H):Prop:=d= .agg [.lit (.string a.n),.lit (.string a.v)]
def QRd (r:Rule) (d:DataW H):Prop:=∃d1 d2,d= .agg [d1,d2]∧QSd QBd r.path d1∧QSd QBd r.keys d2
def QNd (n:Node) (d:DataW H):Prop:=cntN n≤Rows.uptoBulk d
theorem bs_data (s:ByteArray):bs s.data.toList=s:=by cases s;simp[bs]
theorem open_bytes {t:TypeId} (ht:Tryz.prog.underlying t=some .string) {spare:Nat→Bool} {n:Nat} {v:Value} {x:DataW H×List MemPlace} (h:DataW.trod enc Tryz.prog w base spare held n t [v]=some x):∃y:Bytes,Rep w (fun _=>True) v (strD y)∧x.1= .lit (.string y):=by
 obtain⟨s,h1,h2,h3⟩:=DataW.trod_string ht h
 cases h1
 refine⟨s.data.toList,?_,by rw[h2]⟩
 unfold strD
 rw[bs_data]
 exact Rep.string _ _ _ (by unfold maxLen at h3;omega)
theorem open_texts {n:Nat} {cs:List Value} {x:DataW H×List MemPlace} (h:DataW.trod enc Tryz.prog w base (fun _=>true) held n 27 cs=some x):∃(v:Value) (l:List Bytes),cs= [v]∧Rep w (fun _=>True) v (strsD l)∧QSd QBd l x.1:=
 open_rep (f:=fun x=> [strD x]) (z:=1) z_str QBd Tryz.underlying27 kB kA (fun n cs x _ h=>by
  obtain⟨s,rfl,_⟩:=DataW.trod_string Tryz.underlying9 h
  obtain⟨y,h1,h2⟩:=open_bytes Tryz.underlying9 h
  exact⟨y,Reps.cons h1 (Reps.nil _ _),h2⟩) h
theorem open_attr {n:Nat} {cs:List Value} {x:DataW H×List MemPlace} (h:DataW.trod enc Tryz.prog w base (fun _=>true) held n 68 cs=some x):∃a:Attr,Reps w (fun _=>True) cs (attrC a)∧QAd a x.1:=by
 obtain⟨xs,m,_,hx,hl,hxl,hf⟩:=open_fields Tryz.underlying68 kB qC h
 obtain⟨v0,y0,a0,b0,c0⟩:=hf 0 _ rfl
 obtain⟨v1,y1,a1,b1,c1⟩:=hf 1 _ rfl
 match cs,hl,xs,hxl with
 | [_,_],_,[_,_],_=>
  cases a0;cases a1;cases b0;cases b1
  obtain⟨n0,r0,e0⟩:=open_bytes Tryz.underlying9 c0
  obtain⟨n1,r1,e1⟩:=open_bytes Tryz.underlying9 c1
  exact⟨⟨n0,n1⟩,Reps.cons r0 (Reps.cons r1 (Reps.nil _ _)),by rw[hx];simp[QAd,e0,e1]⟩
theorem open_attrs {n:Nat} {cs:List Value} {x:DataW H×List MemPlace} (h:DataW.trod enc Tryz.prog w base (fun _=>true) held n 64 cs=some x):∃(v:Value) (l:List Attr),cs= [v]∧Rep w (fun _=>True) v (attrsD l)∧QSd QAd l x.1:=
 open_rep z_attr QAd Tryz.underlying64 kB kA (fun n cs x _ h=>open_attr h) h
theorem open_rule {n:Nat} {cs:List Value} {x:DataW H×List MemPlace} (h:DataW.trod enc Tryz.prog w base (fun _=>true) held n 62 cs=some x):∃a:Rule,Reps w (fun _=>True) cs (ruleC a)∧QRd a x.1:=by
 obtain⟨xs,m,_,hx,hl,hxl,hf⟩:=open_fields Tryz.underlying62 kB qC h
 obtain⟨v0,y0,a0,b0,c0⟩:=hf 0 _ rfl
 obtain⟨v1,y1,a1,b1,c1⟩:=hf 1 _ rfl
 match cs,hl,xs,hxl with
 | [_,_],_,[_,_],_=>
  cases a0;cases a1;cases b0;cases b1
  obtain⟨v,k,e,r1,q1⟩:=open_texts c0
  cases e
  obtain⟨v,k',e,r2,q2⟩:=open_texts c1
  cases e
  exact⟨⟨k,k'⟩,Reps.cons r1 (Reps.cons r2 (Reps.nil _ _)),_,_,by rw[hx];simp,q1,q2⟩
theorem open_rules {n:Nat} {cs:List Value} {x:DataW H×List MemPlace} (h:DataW.trod enc Tryz.prog w base (fun _=>true) held n 22 cs=some x):∃(v:Value) (l:List Rule),cs= [v]∧Rep w (fun _=>True) v (rulesD l)∧QSd QRd l x.1:=
 open_rep z_rule QRd Tryz.underlying22 kB kA (fun n cs x _ h=>open_rule h) h
-- bulk
theorem bulk_attrs:∀(l:List Attr) (es:List (DataW H)),QLd QAd l es→cntA l≤Rows.uptoBulkAll es
 | [],[],_=>Nat.le_refl _
 | [],_::_,h=>by have:=h.1;simp at this
 | _::_,[],h=>by have:=h.1;simp at this
 | a::l,e::es,h=>by
  have h1:=h.2 0 a e rfl rfl
  have h2:=bulk_attrs l es ⟨by have:=h.1;simpa using this,fun i y e' hy he=>h.2 (i+1) y e' (by simpa using hy) (by simpa using he)⟩
  rw[cntA,Rows.uptoBulkAll,h1]
  simp only[Rows.uptoBulk,Rows.uptoBulkAll]
  omega
theorem bulk_nodes:∀(l:List Node) (es:List (DataW H)),QLd QNd l es→cntL l≤Rows.uptoBulkAll es
 | [],[],_=>Nat.le_refl _
 | [],_::_,h=>by have:=h.1;simp at this
 | _::_,[],h=>by have:=h.1;simp at this
 | a::l,e::es,h=>by
  have h1:=h.2 0 a e rfl rfl
  have h2:=bulk_nodes l es ⟨by have:=h.1;simpa using this,fun i y e' hy he=>h.2 (i+1) y e' (by simpa using hy) (by simpa using he)⟩
  rw[cntL,Rows.uptoBulkAll]
  unfold QNd at h1
  omega
theorem bulk_slice {α:Type} {Q:α→DataW H→Prop} {l:List α} {d:DataW H} (m:List α→Nat) (h0:m []=0) (hm:∀es,QLd Q l es→m l≤Rows.uptoBulkAll es) (h:QSd Q l d):m l+1≤Rows.uptoBulk d:=by
 rcases h with⟨rfl,rfl⟩ | ⟨es,sp,rfl,hq⟩
 ·
  rw[h0];simp[Rows.uptoBulk]
 ·
  have:=hm es hq;simp only[Rows.uptoBulk];omega
theorem open_node:∀(N:Nat) {n:Nat} {cs:List Value} {x:DataW H×List MemPlace},n≤N→DataW.trod enc Tryz.prog w base (fun _=>true) held n 66 cs=some x→∃a:Node,Reps w (fun _=>True) cs (nodeC a)∧QNd a x.1:=by
 intro N
 induction N with
 | zero=>
  intro n cs x hn h
  obtain rfl:n=0:=kA
  simp[DataW.trod]at h
 | succ N ih=>
  intro n cs x hn h
  obtain⟨xs,m,hm,hx,hl,hxl,hf⟩:=open_fields Tryz.underlying66 kB (by intro i f hf;match i,hf with | 0,hf=>cases hf;exact⟨rfl,by kernel_rfl⟩ | 1,hf=>cases hf;exact⟨rfl,by kernel_rfl⟩ | 2,hf=>cases hf;exact⟨rfl,by kernel_rfl⟩ | 3,hf=>cases hf;exact⟨rfl,by kernel_rfl⟩ | 4,hf=>cases hf;exact⟨rfl,by kernel_rfl⟩ | i+5,hf=>simp at hf) h
  obtain⟨v0,y0,a0,b0,c0⟩:=hf 0 _ rfl
  obtain⟨v1,y1,a1,b1,c1⟩:=hf 1 _ rfl
  obtain⟨v2,y2,a2,b2,c2⟩:=hf 2 _ rfl
  obtain⟨v3,y3,a3,b3,c3⟩:=hf 3 _ rfl
  obtain⟨v4,y4,a4,b4,c4⟩:=hf 4 _ rfl
  match cs,hl,xs,hxl with
  | [_,_,_,_,_],_,[_,_,_,_,_],_=>
   cases a0;cases a1;cases a2;cases a3;cases a4;cases b0;cases b1;cases b2;cases b3;cases b4
   obtain⟨k,e,e0,_⟩:=DataW.trod_int Tryz.underlying3 c0
   cases e
   obtain⟨n1,r1,e1⟩:=open_bytes Tryz.underlying9 c1
   obtain⟨n2,r2,e2⟩:=open_bytes Tryz.underlying9 c2
   obtain⟨v,la,e,r3,q3⟩:=open_attrs c3
   cases e
   obtain⟨v,ks,e,r4,q4⟩:=open_rep z_node QNd Tryz.underlying23 kB kA (fun n' cs' x' hn' h'=>ih kA h') c4
   cases e
   refine⟨.mk k n1 n2 la ks,?_,?_⟩
   ·
    rw[nodeC_eq]
    exact Reps.cons (Rep.int _ _ _ _) (Reps.cons r1 (Reps.cons r2 (Reps.cons r3 (Reps.cons r4 (Reps.nil _ _)))))
   ·
    have h3:=bulk_slice cntA rfl (fun es=>bulk_attrs la es) q3
    have h4:=bulk_slice cntL rfl (fun es=>bulk_nodes ks es) q4
    unfold QNd
    rw[hx,cntN]
    simp only[List.map_cons,List.map_nil,e0,e1,e2,Rows.uptoBulk,Rows.uptoBulkAll]
    omega
theorem open_nodes {n:Nat} {cs:List Value} {x:DataW H×List MemPlace} (h:DataW.trod enc Tryz.prog w base (fun _=>true) held n 23 cs=some x):∃(v:Value) (l:List Node),cs= [v]∧Rep w (fun _=>True) v (nodesD l)∧QSd QNd l x.1:=
 open_rep z_node QNd Tryz.underlying23 kB kA (fun n' cs' x' _ h'=>open_node n' (Nat.le_refl _) h') h
theorem ql_len {α:Type} {Q:α→DataW H→Prop} {l:List α} {es:List (DataW H)} (h:QLd Q l es):l.length≤Rows.uptoBulkAll es:=by
 have h1:∀es:List (DataW H),es.length≤Rows.uptoBulkAll es:=fun es=>by
  induction es with
  | nil=>simp[Rows.uptoBulkAll]
  | cons e r ih=>
   rw[Rows.uptoBulkAll,List.length_cons]
   have:1≤Rows.uptoBulk e:=by
    cases e with
    | lit l=>cases l<;> simp[Rows.uptoBulk]
    | _=>simp[Rows.uptoBulk]
   omega
 rw[←h.1];exact h1 es
theorem part_le:∀(es:List (DataW H)) (e:DataW H),e∈es→Rows.uptoBulk e≤Rows.uptoBulkAll es
 | [],_,h=>by cases h
 | a::r,e,h=>by
  rw[Rows.uptoBulkAll]
  rcases List.mem_cons.1 h with h | h
  ·
   rw[h];omega
  ·
   have:=part_le r e h;omega
theorem qs_len {α:Type} {Q:α→DataW H→Prop} {l:List α} {d:DataW H} (h:QSd Q l d):l.length≤Rows.uptoBulk d:=by
 have:=bulk_slice List.length rfl (fun es=>ql_len (es:=es)) h;omega
theorem qs_mem {α:Type} {Q:α→DataW H→Prop} {l:List α} {d:DataW H} (h:QSd Q l d) (y:α) (hy:y∈l):∃e,Q y e∧Rows.uptoBulk e≤Rows.uptoBulk d:=by
 rcases h with⟨rfl,rfl⟩ | ⟨es,sp,rfl,hq⟩
 ·
  cases hy
 ·
  obtain⟨i,hi,rfl⟩:=List.mem_iff_getElem.1 hy
  have hie:i< es.length:=by rw[hq.1];exact hi
  refine⟨es[i],hq.2 i _ _ (List.getElem?_eq_getElem hi) (List.getElem?_eq_getElem hie),?_⟩
  have:=part_le es es[i] (List.getElem_mem hie)
  simp only[Rows.uptoBulk];omega
theorem texts_bulk {l:List Bytes} {d:DataW H} (h:QSd QBd l d) (y:Bytes) (hy:y∈l):y.length≤Rows.uptoBulk d:=by
 obtain⟨e,he,hb⟩:=qs_mem h y hy
 have he':e= .lit (.string y):=he
 rw[he']at hb
 simp only[Rows.uptoBulk]at hb;omega
theorem rules_b {l:List Rule} {d:DataW H} (h:QSd QRd l d) (hd:Rows.uptoBulk d≤1048576):RulesB l:=fun r hr=>by
 obtain⟨e,⟨d1,d2,rfl,q1,q2⟩,hb⟩:=qs_mem h r hr
 simp only[Rows.uptoBulk,Rows.uptoBulkAll]at hb
 have h1:=qs_len q1
 have h2:=qs_len q2
 exact⟨by omega,by omega,fun x hx=>by have:=texts_bulk q1 x hx;omega,fun x hx=>by have:=texts_bulk q2 x hx;omega⟩
theorem nodes_b {l:List Node} {d:DataW H} (h:QSd QNd l d) (hd:Rows.uptoBulk d≤1048576):∀n∈l,cntN n≤1048576:=fun n hn=>by
 obtain⟨e,he,hb⟩:=qs_mem h n hn
 unfold QNd at he;omega
end
set_option maxRecDepth 100000
open Go.ChangeShapes Go.WideShapes Go.ChangeAt Go.RowKit
theorem typesN:Tryz.prog.types.size=274:=by kernel_rfl
theorem own:ownKnob Tryz.prog.godebug=none:=by kernel_rfl
def laidI:List (String×DataW Unit):=Rows.indexTellsRow.laid
theorem max_of {W:World} (hs:W.ShapedOpen Tryz.prog):∃mx,W.cell? ⟨0,0,none⟩=some (.int .i64 mx):=
 cell_of_shapedOpen_int (P:=Tryz.prog) (g:=0) (t:=3) (zero:= #[.int .i64 0]) hs (of_decide_eq_true kB) kB rfl kB kB Tryz.underlying3
noncomputable def laidWorld (os:Os):World:=World.doorLaid Tryz.prog 1000 os
theorem laid_met (os:Os) (args:Array Value):laidMetH Tryz.prog laidI ((laidWorld os).forCall (fun _ _=>0) ⟨#[],args,[]⟩).memory:=
 laidMetH_of_parts3 (fuel:=8) (laidMet_of_run' 8 kB kB) kB kB
theorem laidOutP:laidOutB Tryz.prog=true:=by kernel_rfl
theorem rowedP:mapsRowed Tryz.prog=true:=by kernel_rfl
theorem slicesP:∀t e,t< Tryz.prog.types.size→Tryz.prog.underlying t=some (.slice e)→0< Tryz.prog.cellsOf e:=slices_full_of _ kB
theorem trodAll_later {H:Type} {enc:TypeId×Value→H} {W W':World} {base:Nat} {sp:Nat→Bool} {held:Bool} (hB:∀p:MemPlace,p.block< W.heap.size→W.sameAt W' p):∀{ts:List TypeId} {vs:List Value} {ds:List (DataW H)} {ps:List MemPlace},
  DataW.TrodAll enc Tryz.prog W base sp held ts vs ds ps→DataW.TrodAll enc Tryz.prog W' base sp held ts vs ds ps
 | [],[],[],_,h=>h
 | _::_,_::_,_::_,_,⟨p,q,⟨n,h1⟩,h2,e⟩=>⟨p,q,⟨n,DataW.trod_carry n _ _ _ h1 fun x hx=>hB x (DataW.trod_lt n _ _ _ h1 x hx)⟩,trodAll_later hB h2,e⟩
theorem ext_same {W W':World} (h:Ext W W') (p:MemPlace) (hp:p.block< W.heap.size):W.sameAt W' p:=by
 have hb:=Below.block h p.block hp
 cases p with
 | cell b o=>exact World.cell?_of_block (a:=⟨b,o,none⟩) hb
 | map b=>exact hb
theorem slice_arg {W:World} {t e:TypeId} {v u:Value} (ht:Tryz.prog.underlying t=some (.slice e)) (hval:Value.okWide Tryz.prog W .any 0 t v) (h:v.cells.toList= [u]):v=u:=by
 unfold Value.okWide at hval
 rw[ht]at hval
 cases v with
 | agg cs=>unfold Cell.okWide at hval;rw[ht]at hval;unfold Cell.ok at hval;rw[ht]at hval;exact hval.elim
 | tuple cs=>unfold Cell.okWide at hval;rw[ht]at hval;unfold Cell.ok at hval;rw[ht]at hval;exact hval.elim
 | _=>simp[Value.cells]at h;exact h
open Go.RowKit
set_option linter.unusedSimpArgs false
theorem may_any (l:List Rule) (p:Nat→Prop) (v:Value) (w:World) (hb:RulesB l) (hll:l.length≤1048576) (h:Rep w p v (rulesD l)):
  Calls Tryz.prog 44 #[v] w fun e w'=>SomeB (fun b=>b=true→MayOk l) e∧Ext w w':=by
 obtain⟨a,c,rfl,hc1,hc2⟩:=h.count z_rule kA
 have HB:=Lh hb
 clear hb
 go_enter Tryz.func44,Tryz.ntmps44
 go_wp2_with fail
 go_loopw [3] (fun t wr=>∃i:Nat,t= .int .i64 i∧i≤l.length∧Ext w wr∧Hid (∀(j:Nat) (hj:j< l.length),j< i→RuleOk l[j]∧placedS (l.take j) l[j]=true)) (fun t _=>downV l.length t)
 case atStart=>exact⟨0,rfl,Nat.zero_le _,Ext.refl _,Lh fun j hj h=>absurd h (Nat.not_lt_zero _)⟩
 case round=>
  obtain⟨i,rfl,hi,hX,HI⟩:=hrel
  have hi0:=nZ0 i
  by_cases hlt:i< l.length
  ·
   have hlI:(i:Int)< (l.length:Int):=by omega
   obtain⟨g,o,xp,xk,rfl,lg,_,c0,c1,hrp,hrk⟩:=rule_at (h.ext hX) i hlt
   have hbi:=HB.out _ (List.getElem_mem hlt)
   have hic:i≤c:=by omega
   have hicI:(i:Int)≤(c:Int):=by omega
   have hsub:Rep wr p (.slice (some ⟨g,o,none⟩) i c) (rulesD (l.take i)):=by
    have:=(h.ext hX).take i kA
    rw[flat_take _ 2 z_rule]at this;exact this
   have HT:Hid (RuleOk l[i]→placedS (l.take i) l[i]=true→∀(j:Nat) (hj:j< l.length),j< i+1→RuleOk l[j]∧placedS (l.take j) l[j]=true):=Lh fun h1 h2 j hj hji=>by
    by_cases e:j=i
    ·
     subst e;exact⟨h1,h2⟩
    ·
     exact HI.out j hj kA
   obtain⟨x,hx⟩:∃x,l[i]=x:=⟨_,rfl⟩
   rw[hx]at hrp hrk hbi HT
   obtain⟨xpa,xpc,rfl,_,_⟩:=hrp.count z_str kA
   obtain⟨xka,xkc,rfl,_,_⟩:=hrk.count z_str kA
   have HR:=Lh fun W (hE:Ext wr W)=>rule_any x p _ _ W hbi.1 hbi.2.1 hbi.2.2.1 hbi.2.2.2 (hrp.ext hE) (hrk.ext hE)
   have HPL:=Lh fun W (hE:Ext wr W) (hne:x.path≠ [])=>placed_any (l.take i) x p _ _ (.slice xka x.keys.length xkc) W hne (hsub.ext hE) (hrp.ext hE)
   obtain⟨PB,hPB⟩:∃b,placedS (l.take i) x=b:=⟨_,rfl⟩
   rw[hPB]at HPL HT
   clear hx HI hrp hrk hbi hsub hPB
   obtain⟨wz,hwz⟩:∃wz,wz=wr:=⟨_,rfl⟩
   subst hwz
   go_wp2_with fail
   refine rg_begin (S:=Sx wz) kB (Sx.begin _) ?_
   have hS:Sx wz (World.drew wz):=(Sx.begin _)
   refine gT 0 10 (.slice (some ⟨g,o,none⟩) l.length c) hS ?_
   simp only[Act.put,sA,sZ,sS]
   refine gT 1 11 (.int .i64 i) hS ?_
   simp only[Act.put,sA,sZ,sS]
   refine gT 2 12 (.pointer (some ⟨g,o+i*2,none⟩)) hS ?_
   simp only[Act.put,sA,sZ,sS]
   refine gT 3 13 (.agg #[.slice xpa x.path.length xpc,.slice xka x.keys.length xkc]) hS ?_ (hv:=fun w' hs=>by(have h0:=hs.cell lg c0;have h1:=hs.cell lg c1;go_simp))
   simp only[Act.put,sA,sZ,sS]
   refine rg_call 4 (some 14) 73 #[.agg #[.slice xpa x.path.length xpc,.slice xka x.keys.length xkc]] rfl rfl kB (by rfl) (fun w'=>by first | rfl | go_simp) (R:=fun v w'=>(∃b1,v= .bool b1∧(b1=true→RuleOk x))∧Ext (World.drew wz) w') ?_ ?_
   ·
    refine(HR.out (World.drew wz) hS).mono ?_
    rintro e w' ⟨⟨b1,rfl,hb1⟩,h⟩
    exact⟨_,rfl,⟨b1,rfl,hb1⟩,h⟩
   rintro _ wr1 ⟨⟨b1,rfl,hb1⟩,hBr1⟩
   have hS1:=hS.ext hBr1
   refine⟨hS1,?_⟩
   simp only[Act.put,sA,sZ,sS]
   cases b1 with
   | true=>
    refine gT 5 15 (.bool false) hS1 ?_
    simp only[Act.put,sA,sZ,sS]
    refine gT 6 16 (.bool false) hS1 ?_
    simp only[Act.put,sA,sZ,sS]
    refine gT 7 17 (.slice (some ⟨g,o,none⟩) l.length c) hS1 ?_
    simp only[Act.put,sA,sZ,sS]
    refine gT 8 18 (.int .i64 i) hS1 ?_
    simp only[Act.put,sA,sZ,sS]
    refine gT 9 19 (.slice (some ⟨g,o,none⟩) i c) hS1 ?_
    simp only[Act.put,sA,sZ,sS]
    refine gT 10 20 (.slice (some ⟨g,o,none⟩) l.length c) hS1 ?_
    simp only[Act.put,sA,sZ,sS]
    refine gT 11 21 (.int .i64 i) hS1 ?_
    simp only[Act.put,sA,sZ,sS]
    refine gT 12 22 (.pointer (some ⟨g,o+i*2,none⟩)) hS1 ?_
    simp only[Act.put,sA,sZ,sS]
    refine gT 13 23 (.agg #[.slice xpa x.path.length xpc,.slice xka x.keys.length xkc]) hS1 ?_ (hv:=fun w' hs=>by(have h0:=hs.cell lg c0;have h1:=hs.cell lg c1;go_simp))
    simp only[Act.put,sA,sZ,sS]
    refine rg_call 14 (some 24) 74 #[.slice (some ⟨g,o,none⟩) i c,.agg #[.slice xpa x.path.length xpc,.slice xka x.keys.length xkc]] rfl rfl kB (by rfl) (fun w'=>by first | rfl | go_simp) (R:=fun v w'=>v= .bool PB∧Ext wr1 w') ?_ ?_
    ·
     refine(HPL.out wr1 hS1 (hb1 rfl).1).mono ?_
     rintro e w' ⟨rfl,h⟩
     exact⟨_,rfl,rfl,h⟩
    rintro _ wr2 ⟨rfl,hBr2⟩
    have hS2:=hS1.ext hBr2
    refine⟨hS2,?_⟩
    simp only[Act.put,sA,sZ,sS]
    refine gT 15 25 (.bool (!PB)) hS2 ?_
    simp only[Act.put,sA,sZ,sS]
    refine gT 16 26 (.bool (!PB)) hS2 ?_
    simp only[Act.put,sA,sZ,sS]
    refine rg_done kB ?_
    cases PB with
    | false=>
     go_wp2_with fail
     go_ret
     exact⟨⟨_,rfl,fun h=>by cases h⟩,hX.trans hS2⟩
    | true=>
     have HN:=Lh (HT.out (hb1 rfl) rfl)
     clear hb1 HT
     go_wp2_with fail
     go_roundw
     case rel=>exact⟨i+1,by go_num,by omega,hX.trans hS2,HN⟩
     case measure=>exact mZ
   | false=>
    refine gT 5 15 (.bool true) hS1 ?_
    simp only[Act.put,sA,sZ,sS]
    refine gT 6 16 (.bool true) hS1 ?_
    simp only[Act.put,sA,sZ,sS]
    refine rg_s 7 (some 17) rfl hS1 ?_
    simp only[Act.put,sA,sZ,sS]
    refine rg_s 8 (some 18) rfl hS1 ?_
    simp only[Act.put,sA,sZ,sS]
    refine rg_s 9 (some 19) rfl hS1 ?_
    simp only[Act.put,sA,sZ,sS]
    refine rg_s 10 (some 20) rfl hS1 ?_
    simp only[Act.put,sA,sZ,sS]
    refine rg_s 11 (some 21) rfl hS1 ?_
    simp only[Act.put,sA,sZ,sS]
    refine rg_s 12 (some 22) rfl hS1 ?_
    simp only[Act.put,sA,sZ,sS]
    refine rg_s 13 (some 23) rfl hS1 ?_
    simp only[Act.put,sA,sZ,sS]
    refine rg_s 14 (some 24) rfl hS1 ?_
    simp only[Act.put,sA,sZ,sS]
    refine rg_s 15 (some 25) rfl hS1 ?_
    simp only[Act.put,sA,sZ,sS]
    refine gT 16 26 (.bool true) hS1 ?_
    simp only[Act.put,sA,sZ,sS]
    refine rg_done kB ?_
    go_wp2_with fail
    go_ret
    exact⟨⟨_,rfl,fun h=>by cases h⟩,hX.trans hS1⟩
  ·
   have hlI:¬(i:Int)< (l.length:Int):=by omega
   have HA:Hid (∀(j:Nat) (hj:j< l.length),RuleOk l[j]∧placedS (l.take j) l[j]=true):=Lh fun j hj=>HI.out j hj kA
   clear HI hlt
   by_cases h1:1≤l.length
   ·
    have h1I:(1:Int)≤(l.length:Int):=by omega
    by_cases h2:l.length≤64
    ·
     have h2I:(l.length:Int)≤64:=by omega
     have HN:Hid (MayOk l):=Lh ⟨h1,h2,HA.out⟩
     go_wp2_with fail
     go_ret
     exact⟨⟨_,rfl,fun _=>HN.out⟩,hX⟩
    ·
     have h2I:¬(l.length:Int)≤64:=by omega
     go_wp2_with fail
     go_ret
     exact⟨⟨_,rfl,fun h=>by simp at h<;> omega⟩,hX⟩
   ·
    have h1I:¬(1:Int)≤(l.length:Int):=by omega
    have HL:=Lh h1
    clear h1
    go_wp2_with fail
    go_ret
    exact⟨⟨_,rfl,fun h=>by cases h⟩,hX⟩
theorem blank_some (r:Int) (w:World):Calls Tryz.prog 110 #[.int .i32 r] w fun e w'=>SomeB (fun _=>True) e∧w'=w:=by
 by_cases h1:r=9
 ·
  subst h1;go_enter Tryz.func110,Tryz.ntmps110;go_wp2_with fail;go_ret;exact⟨⟨_,rfl,trivial⟩,rfl⟩
 ·
  have e1:(r==9)=false:=by simpa using h1
  by_cases h2:r=10
  ·
   subst h2;go_enter Tryz.func110,Tryz.ntmps110;go_wp2_with fail;go_ret;exact⟨⟨_,rfl,trivial⟩,rfl⟩
  ·
   have e2:(r==10)=false:=by simpa using h2
   by_cases h3:r=13
   ·
    subst h3;go_enter Tryz.func110,Tryz.ntmps110;go_wp2_with fail;go_ret;exact⟨⟨_,rfl,trivial⟩,rfl⟩
   ·
    have e3:(r==13)=false:=by simpa using h3
    go_enter Tryz.func110,Tryz.ntmps110;go_wp2_with fail;go_ret;exact⟨⟨_,rfl,trivial⟩,rfl⟩
theorem has_any (s q:ByteArray) (hs:s.size≤1048576) (hq:q.size≤16) (w:World):Calls Tryz.prog 108 #[.string s,.string q] w fun e w'=>SomeB (fun _=>True) e∧w'=w:=by
 go_enter Tryz.func108,Tryz.ntmps108
 go_wp2_with fail
 go_loopw [5] (fun t wr=>∃i:Nat,t= .int .i64 i∧i≤s.size+1∧wr=w) (fun t _=>downV (s.size+1) t)
 case atStart=>exact⟨0,rfl,Nat.zero_le _,rfl⟩
 case round=>
  obtain⟨i,rfl,hi,rfl⟩:=hrel
  have hi0:=nZ0 i
  by_cases hlt:i+q.size≤s.size
  ·
   have hlI:(i:Int)+(q.size:Int)≤(s.size:Int):=by omega
   have hl2:(i:Int)≤(i:Int)+(q.size:Int):=by omega
   obtain⟨B,hB⟩:∃B,((s.extract i (i+q.size)).toList==q.toList)=B:=⟨_,rfl⟩
   cases B with
   | true=>
    go_wp2_with fail
    go_ret
    exact⟨⟨_,rfl,trivial⟩,rfl⟩
   | false=>
    go_wp2_with fail
    go_roundw
    case rel=>exact⟨i+1,by go_num,by omega,trivial⟩
    case measure=>exact mZ
  ·
   have hlI:¬(i:Int)+(q.size:Int)≤(s.size:Int):=by omega
   go_wp2_with fail
   go_ret
   exact⟨⟨_,rfl,trivial⟩,rfl⟩
theorem conv_block (w:World) (s:Bytes):∃cap W cs,(convert 9 139 (.string (bs s))).run Tryz.prog w= .ok (.slice (some ⟨w.heap.size,0,none⟩) s.length cap) W∧Ext w W∧W.heap.size=w.heap.size+1∧W.heap[w.heap.size]? =some (.cells cs 5 (cs.size,cs.size+1))∧∀(k:Nat) (hk:k< s.length),cs[k]? =some (.int .u8 (s[k].toNat:Int)):=by
 have hsz:(bs s).size=s.length:=bs_size s
 have h:=run_bytes_of_string w 9 139 5 (bs s) Tryz.underlying9 Tryz.underlying139 Tryz.underlying5
 rw[hsz]at h
 refine⟨_,_,_,h,(Ext.refl w).drew.alloc _,by simp,Array.getElem?_push_size ..,fun k hk=> ?_⟩
 unfold bytesRow
 rw[Array.getElem?_append_left (by simp[hsz,hk])]
 simp[bs,hk]
theorem blk_set' {w:World} {g k:Nat} {cs:Array Value} {t:TypeId} {fz:Nat×Nat} {u:Value} (h:w.heap[g]? =some (.cells cs t fz)):(w.setCell ⟨g,k,none⟩ u).heap[g]? =some (.cells (cs.setIfInBounds k u) t fz):=by
 have hlt:=blk_lt h
 have h':w.heap[g]= .cells cs t fz:=by simpa [Array.getElem?_eq_getElem hlt]using h
 show(w.heap.modify g _)[g]? =_
 rw[Array.getElem?_eq_getElem (by simpa using hlt),Array.getElem_modify_self,h']
 rfl
theorem lower_any (s:Bytes) (hs:s.length≤1048576) (w:World):Calls Tryz.prog 109 #[.string (bs s)] w fun e w'=>(∃L:Bytes,e= .returned (.string (bs L))∧L.length≤1048576)∧Ext w w':=by
 obtain⟨cap,w1,cs,hcv,hE1,hz1,hblk,hcs⟩:=conv_block w s
 go_enter Tryz.func109,Tryz.ntmps109
 go_wp2_with fail
 clear hcv
 have HST:Hid (∃(L:Bytes) (cs':Array Value),L.length=s.length∧cs'.size=cs.size∧w1.heap[w.heap.size]? =some (.cells cs' 5 (cs.size,cs.size+1))∧∀(k:Nat) (hk:k< L.length),cs'[k]? =some (.int .u8 (L[k].toNat:Int))):=Lh ⟨s,cs,rfl,rfl,hblk,hcs⟩
 clear hblk hcs
 go_loopw [4] (fun t wr=>∃i:Nat,t= .int .i64 i∧i≤s.length∧Ext w wr∧w.heap.size< wr.heap.size∧Hid (∃(L:Bytes) (cs':Array Value),L.length=s.length∧cs'.size=cs.size∧wr.heap[w.heap.size]? =some (.cells cs' 5 (cs.size,cs.size+1))∧∀(k:Nat) (hk:k< L.length),cs'[k]? =some (.int .u8 (L[k].toNat:Int)))) (fun t _=>downV s.length t)
 case atStart=>exact⟨0,rfl,Nat.zero_le _,hE1,by omega,HST⟩
 case round=>
  clear HST
  obtain⟨i,rfl,hi,hX,hlw,HI⟩:=hrel
  have hi0:=nZ0 i
  obtain⟨L,cs',hL,hcz,hblk,hcell⟩:=HI.out
  by_cases hlt:i< s.length
  ·
   have hlI:(i:Int)< (s.length:Int):=by omega
   have hiL:i< L.length:=by omega
   have h1:=hcell i hiL
   have hic:i< cs'.size:=(Array.getElem?_eq_some_iff.1 h1).1
   have ci:wr.cell? ⟨w.heap.size,i,none⟩=some (.int .u8 (L[i].toNat:Int)):=by simp[World.cell?,hblk,h1]
   have fi:wr.frozen? ⟨w.heap.size,i,none⟩=false:=by simp[World.frozen?,hblk];omega
   have HB:=Lh (And.intro hL (And.intro hcz (And.intro hblk hcell)))
   have xlt:=L[i].toNat_lt
   obtain⟨x,hx⟩:∃x,L[i]=x:=⟨_,rfl⟩
   rw[hx]at ci xlt
   clear hL hcz hblk hcell h1 hic HI
   by_cases ha:65≤x.toNat
   ·
    have haI:(65:Int)≤(x.toNat:Int):=by omega
    by_cases hz:x.toNat≤90
    ·
     have hzI:(x.toNat:Int)≤90:=by omega
     have hsum:(x.toNat:Int)+32< 256:=by omega
     have HX:=Lh hx
     clear hx
     go_wp2_with fail
     go_roundw
     case rel=>
      refine⟨i+1,by go_num,by omega,hX.set (Nat.le_refl _) _,by simpa using hlw,Lh ⟨L.set i (UInt8.ofNat (x.toNat+32)),cs'.setIfInBounds i (.int .u8 ((x.toNat:Int)+32)),by rw[List.length_set];exact HB.out.1,by rw[Array.size_setIfInBounds];exact HB.out.2.1,?_,?_⟩⟩
      ·
       exact blk_set' HB.out.2.2.1
      ·
       intro k hk
       have hc:=HB.out.2.2.2
       by_cases e:k=i
       ·
        subst e
        have hkc:k< cs'.size:=(Array.getElem?_eq_some_iff.1 (hc k hiL)).1
        simp[hkc,UInt8.toNat_ofNat']
        omega
       ·
        rw[Array.getElem?_setIfInBounds_ne kA,List.getElem_set_ne kA]
        exact hc k (by simpa using hk)
     case measure=>exact mZ
    ·
     have hzI:¬(x.toNat:Int)≤90:=by omega
     go_wp2_with fail
     go_roundw
     case rel=>exact⟨i+1,by go_num,by omega,hX,hlw,Lh ⟨L,cs',HB.out⟩⟩
     case measure=>exact mZ
   ·
    have haI:¬(65:Int)≤(x.toNat:Int):=by omega
    go_wp2_with fail
    go_roundw
    case rel=>exact⟨i+1,by go_num,by omega,hX,hlw,Lh ⟨L,cs',HB.out⟩⟩
    case measure=>exact mZ
  ·
   have hlI:¬(i:Int)< (s.length:Int):=by omega
   have hback:=run_convert_bytes_back (P:=Tryz.prog) wr 139 9 5 ⟨w.heap.size,0,none⟩ cap L Tryz.underlying139 Tryz.underlying5 Tryz.underlying9 (fun j hj=>by rw[add_offs'];simp[World.cell?,hblk,hcell j hj])
   rw[hL]at hback
   have HLL:=Lh hL
   clear HI hL hcz hblk hcell
   go_wp2_with fail
   go_ret
   exact⟨⟨L,rfl,by have:=HLL.out;omega⟩,hX⟩
def begC (r:Int):Prop:=(65≤r∧r≤90)∨r=95∨(97≤r∧r≤122)∨192≤r
def goC (r:Int):Prop:=(65≤r∧r≤90)∨r=95∨(97≤r∧r≤122)∨r=45∨r=46∨(48≤r∧r≤57)∨183≤r
theorem in2_any (r a b:Int) (w:World):Calls Tryz.prog 179 #[.int .i32 r,.int .i32 a,.int .i32 b] w fun e w'=>SomeB (fun t=>t=true→a≤r∧r≤b) e∧w'=w:=by
 by_cases h1:a≤r
 ·
  by_cases h2:r≤b
  ·
   have HH:=Lh (And.intro h1 h2)
   go_enter Tryz.func179,Tryz.ntmps179
   go_wp2_with fail
   go_ret
   exact⟨⟨_,rfl,fun _=>HH.out⟩,rfl⟩
  ·
   go_enter Tryz.func179,Tryz.ntmps179
   go_wp2_with fail
   go_ret
   exact⟨⟨_,rfl,fun h=>by cases h⟩,rfl⟩
 ·
  go_enter Tryz.func179,Tryz.ntmps179
  go_wp2_with fail
  go_ret
  exact⟨⟨_,rfl,fun h=>by cases h⟩,rfl⟩
theorem begins2_any (r:Int) (w:World):Calls Tryz.prog 145 #[.int .i32 r] w fun e w'=>SomeB (fun t=>t=true→begC r) e∧w'=w:=by
 go_enter Tryz.func145,Tryz.ntmps145
 go_wp2_with fail
 refine(in2_any _ _ _ _).mono ?_
 rintro _ _ ⟨⟨b0,rfl,qb0⟩,rfl⟩
 have Qb0:=Lh qb0
 clear qb0
 cases b0 with
 | true=>
  go_wp2_with fail
  go_ret
  exact⟨⟨_,rfl,fun hb=>by(try unfold begC);first | omega | (have:=Qb0.out kK;omega) | (have:=Qb0.out hb;omega) | (simp at hb;omega) | cases hb⟩,rfl⟩
 | false=>
  by_cases h95:r=95
  ·
   subst h95
   go_wp2_with fail
   go_ret
   exact⟨⟨_,rfl,fun hb=>by(try unfold begC);first | omega | (have:=Qb0.out kK;omega) | (have:=Qb0.out hb;omega) | (simp at hb;omega) | cases hb⟩,rfl⟩
  ·
   have e95:(r==95)=false:=by simpa using h95
   go_wp2_with fail
   refine(in2_any _ _ _ _).mono ?_
   rintro _ _ ⟨⟨b2,rfl,qb2⟩,rfl⟩
   have Qb2:=Lh qb2
   clear qb2
   cases b2 with
   | true=>
    go_wp2_with fail
    go_ret
    exact⟨⟨_,rfl,fun hb=>by(try unfold begC);first | omega | (have:=Qb2.out kK;omega) | (have:=Qb2.out hb;omega) | (simp at hb;omega) | cases hb⟩,rfl⟩
   | false=>
    go_wp2_with fail
    refine(in2_any _ _ _ _).mono ?_
    rintro _ _ ⟨⟨b3,rfl,qb3⟩,rfl⟩
    have Qb3:=Lh qb3
    clear qb3
    cases b3 with
    | true=>
     go_wp2_with fail
     go_ret
     exact⟨⟨_,rfl,fun hb=>by(try unfold begC);first | omega | (have:=Qb3.out kK;omega) | (have:=Qb3.out hb;omega) | (simp at hb;omega) | cases hb⟩,rfl⟩
    | false=>
     go_wp2_with fail
     refine(in2_any _ _ _ _).mono ?_
     rintro _ _ ⟨⟨b4,rfl,qb4⟩,rfl⟩
     have Qb4:=Lh qb4
     clear qb4
     cases b4 with
     | true=>
      go_wp2_with fail
      go_ret
      exact⟨⟨_,rfl,fun hb=>by(try unfold begC);first | omega | (have:=Qb4.out kK;omega) | (have:=Qb4.out hb;omega) | (simp at hb;omega) | cases hb⟩,rfl⟩
     | false=>
      go_wp2_with fail
      refine(in2_any _ _ _ _).mono ?_
      rintro _ _ ⟨⟨b5,rfl,qb5⟩,rfl⟩
      have Qb5:=Lh qb5
      clear qb5
      cases b5 with
      | true=>
       go_wp2_with fail
       go_ret
       exact⟨⟨_,rfl,fun hb=>by(try unfold begC);first | omega | (have:=Qb5.out kK;omega) | (have:=Qb5.out hb;omega) | (simp at hb;omega) | cases hb⟩,rfl⟩
      | false=>
       go_wp2_with fail
       refine(in2_any _ _ _ _).mono ?_
       rintro _ _ ⟨⟨b6,rfl,qb6⟩,rfl⟩
       have Qb6:=Lh qb6
       clear qb6
       cases b6 with
       | true=>
        go_wp2_with fail
        go_ret
        exact⟨⟨_,rfl,fun hb=>by(try unfold begC);first | omega | (have:=Qb6.out kK;omega) | (have:=Qb6.out hb;omega) | (simp at hb;omega) | cases hb⟩,rfl⟩
       | false=>
        go_wp2_with fail
        refine(in2_any _ _ _ _).mono ?_
        rintro _ _ ⟨⟨b7,rfl,qb7⟩,rfl⟩
        have Qb7:=Lh qb7
        clear qb7
        cases b7 with
        | true=>
         go_wp2_with fail
         go_ret
         exact⟨⟨_,rfl,fun hb=>by(try unfold begC);first | omega | (have:=Qb7.out kK;omega) | (have:=Qb7.out hb;omega) | (simp at hb;omega) | cases hb⟩,rfl⟩
        | false=>
         go_wp2_with fail
         refine(in2_any _ _ _ _).mono ?_
         rintro _ _ ⟨⟨b8,rfl,qb8⟩,rfl⟩
         have Qb8:=Lh qb8
         clear qb8
         cases b8 with
         | true=>
          go_wp2_with fail
          go_ret
          exact⟨⟨_,rfl,fun hb=>by(try unfold begC);first | omega | (have:=Qb8.out kK;omega) | (have:=Qb8.out hb;omega) | (simp at hb;omega) | cases hb⟩,rfl⟩
         | false=>
          go_wp2_with fail
          refine(in2_any _ _ _ _).mono ?_
          rintro _ _ ⟨⟨b9,rfl,qb9⟩,rfl⟩
          have Qb9:=Lh qb9
          clear qb9
          cases b9 with
          | true=>
           go_wp2_with fail
           go_ret
           exact⟨⟨_,rfl,fun hb=>by(try unfold begC);first | omega | (have:=Qb9.out kK;omega) | (have:=Qb9.out hb;omega) | (simp at hb;omega) | cases hb⟩,rfl⟩
          | false=>
           go_wp2_with fail
           refine(in2_any _ _ _ _).mono ?_
           rintro _ _ ⟨⟨b10,rfl,qb10⟩,rfl⟩
           have Qb10:=Lh qb10
           clear qb10
           cases b10 with
           | true=>
            go_wp2_with fail
            go_ret
            exact⟨⟨_,rfl,fun hb=>by(try unfold begC);first | omega | (have:=Qb10.out kK;omega) | (have:=Qb10.out hb;omega) | (simp at hb;omega) | cases hb⟩,rfl⟩
           | false=>
            go_wp2_with fail
            refine(in2_any _ _ _ _).mono ?_
            rintro _ _ ⟨⟨b11,rfl,qb11⟩,rfl⟩
            have Qb11:=Lh qb11
            clear qb11
            cases b11 with
            | true=>
             go_wp2_with fail
             go_ret
             exact⟨⟨_,rfl,fun hb=>by(try unfold begC);first | omega | (have:=Qb11.out kK;omega) | (have:=Qb11.out hb;omega) | (simp at hb;omega) | cases hb⟩,rfl⟩
            | false=>
             go_wp2_with fail
             refine(in2_any _ _ _ _).mono ?_
             rintro _ _ ⟨⟨b12,rfl,qb12⟩,rfl⟩
             have Qb12:=Lh qb12
             clear qb12
             cases b12 with
             | true=>
              go_wp2_with fail
              go_ret
              exact⟨⟨_,rfl,fun hb=>by(try unfold begC);first | omega | (have:=Qb12.out kK;omega) | (have:=Qb12.out hb;omega) | (simp at hb;omega) | cases hb⟩,rfl⟩
             | false=>
              go_wp2_with fail
              refine(in2_any _ _ _ _).mono ?_
              rintro _ _ ⟨⟨b13,rfl,qb13⟩,rfl⟩
              have Qb13:=Lh qb13
              clear qb13
              cases b13 with
              | true=>
               go_wp2_with fail
               go_ret
               exact⟨⟨_,rfl,fun hb=>by(try unfold begC);first | omega | (have:=Qb13.out kK;omega) | (have:=Qb13.out hb;omega) | (simp at hb;omega) | cases hb⟩,rfl⟩
              | false=>
               go_wp2_with fail
               refine(in2_any _ _ _ _).mono ?_
               rintro _ _ ⟨⟨b14,rfl,qb14⟩,rfl⟩
               have Qb14:=Lh qb14
               clear qb14
               go_wp2_with fail
               go_ret
               exact⟨⟨_,rfl,fun hb=>by(try unfold begC);first | omega | (have:=Qb14.out kK;omega) | (have:=Qb14.out hb;omega) | (simp at hb;omega) | cases hb⟩,rfl⟩
theorem goeson2_any (r:Int) (w:World):Calls Tryz.prog 146 #[.int .i32 r] w fun e w'=>SomeB (fun t=>t=true→goC r) e∧w'=w:=by
 go_enter Tryz.func146,Tryz.ntmps146
 go_wp2_with fail
 refine(begins2_any _ _).mono ?_
 rintro _ _ ⟨⟨b1,rfl,qb1⟩,rfl⟩
 have Qb1:=Lh qb1
 clear qb1
 cases b1 with
 | true=>
  go_wp2_with fail
  go_ret
  exact⟨⟨_,rfl,fun hb=>by(try unfold goC);first | omega | (have:=Qb1.out kK;unfold begC at this;omega) | (have:=Qb1.out hb;omega) | (simp at hb;omega) | cases hb⟩,rfl⟩
 | false=>
  by_cases h45:r=45
  ·
   subst h45
   go_wp2_with fail
   go_ret
   exact⟨⟨_,rfl,fun hb=>by(try unfold goC);first | omega | (have:=Qb1.out kK;unfold begC at this;omega) | (have:=Qb1.out hb;omega) | (simp at hb;omega) | cases hb⟩,rfl⟩
  ·
   have e45:(r==45)=false:=by simpa using h45
   by_cases h46:r=46
   ·
    subst h46
    go_wp2_with fail
    go_ret
    exact⟨⟨_,rfl,fun hb=>by(try unfold goC);first | omega | (have:=Qb1.out kK;unfold begC at this;omega) | (have:=Qb1.out hb;omega) | (simp at hb;omega) | cases hb⟩,rfl⟩
   ·
    have e46:(r==46)=false:=by simpa using h46
    go_wp2_with fail
    refine(in2_any _ _ _ _).mono ?_
    rintro _ _ ⟨⟨b4,rfl,qb4⟩,rfl⟩
    have Qb4:=Lh qb4
    clear qb4
    cases b4 with
    | true=>
     go_wp2_with fail
     go_ret
     exact⟨⟨_,rfl,fun hb=>by(try unfold goC);first | omega | (have:=Qb4.out kK;omega) | (have:=Qb4.out hb;omega) | (simp at hb;omega) | cases hb⟩,rfl⟩
    | false=>
     by_cases h183:r=183
     ·
      subst h183
      go_wp2_with fail
      go_ret
      exact⟨⟨_,rfl,fun hb=>by(try unfold goC);first | omega | (have:=Qb4.out kK;omega) | (have:=Qb4.out hb;omega) | (simp at hb;omega) | cases hb⟩,rfl⟩
     ·
      have e183:(r==183)=false:=by simpa using h183
      go_wp2_with fail
      refine(in2_any _ _ _ _).mono ?_
      rintro _ _ ⟨⟨b6,rfl,qb6⟩,rfl⟩
      have Qb6:=Lh qb6
      clear qb6
      cases b6 with
      | true=>
       go_wp2_with fail
       go_ret
       exact⟨⟨_,rfl,fun hb=>by(try unfold goC);first | omega | (have:=Qb6.out kK;omega) | (have:=Qb6.out hb;omega) | (simp at hb;omega) | cases hb⟩,rfl⟩
      | false=>
       by_cases h8255:r=8255
       ·
        subst h8255
        go_wp2_with fail
        go_ret
        exact⟨⟨_,rfl,fun hb=>by(try unfold goC);first | omega | (have:=Qb6.out kK;omega) | (have:=Qb6.out hb;omega) | (simp at hb;omega) | cases hb⟩,rfl⟩
       ·
        have e8255:(r==8255)=false:=by simpa using h8255
        go_wp2_with fail
        go_ret
        exact⟨⟨_,rfl,fun hb=>by(try unfold goC);first | omega | (have:=Qb6.out kK;omega) | (have:=Qb6.out hb;omega) | (simp at hb;omega) | cases hb⟩,rfl⟩
def EncP (m:Int) (L:List Int):Prop:=(L.length=1→0≤m∧m< 128∧L= [m])∧(2≤L.length→∀x∈L,128≤x)
def RetEnc (m:Int) (p:Nat→Prop) (e:Ending) (w':World):Prop:=∃L:List Int,L.length≤4∧EncP m L∧Ret p (numsD .u8 L) e w'
theorem retEnc_nil (m:Int) (p:Nat→Prop) (w:World):RetEnc m p (.returned (.slice none 0 0)) w:=⟨[],by simp,⟨fun h=>by simp at h,fun h=>by simp at h⟩,_,rfl,.nil 1⟩
theorem retEnc_new (m:Int) (w:World) (e:TypeId) (l:List Int) (cs:Array Value) (hcs:cs=(l.map fun y=>Value.int .u8 y).toArray) (n:Nat) (hn:n=l.length) (hl:l.length≤4) (hE:EncP m l):RetEnc m (fun b=>w.heap.size≤b) (.returned (.slice (some ⟨w.heap.size,0,none⟩) n n)) (w.alloc (.cells cs e)):=by
 subst hcs hn
 refine⟨l,hl,hE,_,rfl,new_row (us:=l.map fun y=>Value.int .u8 y) (cs:=(l.map fun y=>Value.int .u8 y).toArray) (e:=e) _ (Array.getElem?_push_size ..) (by rw[flat_len _ 1 (z_num .u8)]) kI (Nat.le_refl _) kA (fun j u hj=>by simpa using hj) (nums_reps _ _ _ _).2⟩
theorem encode2_any (m:Int) (w:World) (m1: -2147483648≤m) (m2:m< 2147483648):Calls Tryz.prog 180 #[.int .i32 m] w fun e w'=>RetEnc m (fun b=>w.heap.size≤b) e w'∧Ext w w':=by
 by_cases h1:m< 0
 ·
  go_enter Tryz.func180,Tryz.ntmps180;go_wp2_with fail;go_ret;exact⟨retEnc_nil _ _ _,Ext.refl _⟩
 ·
  by_cases h2:1114111< m
  ·
   go_enter Tryz.func180,Tryz.ntmps180;go_wp2_with fail;go_ret;exact⟨retEnc_nil _ _ _,Ext.refl _⟩
  ·
   by_cases h3:55296≤m
   ·
    by_cases h4:m≤57343
    ·
     go_enter Tryz.func180,Tryz.ntmps180;go_wp2_with fail;go_ret;exact⟨retEnc_nil _ _ _,Ext.refl _⟩
    ·
     have n128:¬m< 128:=by omega
     have n2048:¬m< 2048:=by omega
     by_cases h5:m< 65536
     ·
      go_enter Tryz.func180,Tryz.ntmps180;go_wp2_with fail;go_ret;refine⟨retEnc_new m w _ [_,_,_] _ rfl 3 rfl kI ?_,(Ext.refl _).alloc _⟩;exact⟨fun h=>by simp at h,fun _ x hx=>by simp only[List.mem_cons,List.not_mem_nil,or_false]at hx;rcases hx with rfl | rfl | rfl<;> omega⟩
     ·
      go_enter Tryz.func180,Tryz.ntmps180;go_wp2_with fail;go_ret;refine⟨retEnc_new m w _ [_,_,_,_] _ rfl 4 rfl kI ?_,(Ext.refl _).alloc _⟩;exact⟨fun h=>by simp at h,fun _ x hx=>by simp only[List.mem_cons,List.not_mem_nil,or_false]at hx;rcases hx with rfl | rfl | rfl | rfl<;> omega⟩
   ·
    have n65:m< 65536:=by omega
    by_cases h5:m< 128
    ·
     go_enter Tryz.func180,Tryz.ntmps180;go_wp2_with fail;go_ret;refine⟨retEnc_new m w _ [_] _ rfl 1 rfl kI ?_,(Ext.refl _).alloc _⟩;exact⟨fun _=>⟨by omega,by omega,rfl⟩,fun h=>by simp at h⟩
    ·
     by_cases h6:m< 2048
     ·
      go_enter Tryz.func180,Tryz.ntmps180;go_wp2_with fail;go_ret;refine⟨retEnc_new m w _ [_,_] _ rfl 2 rfl kI ?_,(Ext.refl _).alloc _⟩;exact⟨fun h=>by simp at h,fun _ x hx=>by simp only[List.mem_cons,List.not_mem_nil,or_false]at hx;rcases hx with rfl | rfl<;> omega⟩
     ·
      go_enter Tryz.func180,Tryz.ntmps180;go_wp2_with fail;go_ret;refine⟨retEnc_new m w _ [_,_,_] _ rfl 3 rfl kI ?_,(Ext.refl _).alloc _⟩;exact⟨fun h=>by simp at h,fun _ x hx=>by simp only[List.mem_cons,List.not_mem_nil,or_false]at hx;rcases hx with rfl | rfl | rfl<;> omega⟩
def RetRune2 (l:List Int) (t:Nat) (e:Ending):Prop:=∃(r:Int) (m:Nat),e= .returned (.tuple #[.int .i32 r,.int .i64 m])∧m≤l.length - t∧(m=1→l[t]? =some r∧r< 128)∧(2≤m→∀q:Nat,q< m→∀c:Int,l[t+q]? =some c→128≤c)
end Go.Proofs.YtngmgjodcnknoaaGreatDoor
