/-
 What the rows of this seat list of package-level variables:what it gives the walks,and a world that meets it. Helper lemmas;no statement of the seat is proved here.
-/
import Derived.Test.YtebhipeeogoagaaGreatDoorCards
import Derived.Test.YtebhipeeogoagaaGreatDoorTie
import Derived.Test.YtebhipeeogoagaaGreatDoorU26
import Derived.ReadAgain
import Derived.ChangeSame
import Derived.ProofKit
import Derived.OpenShut
import Derived.Deep.DeepHandedRow
import Derived.Deep.DeepWitnessRowRef
import Derived.Lib.LaidTab
import Derived.Lib.LaidU8
import Derived.Lib.LaidU8T
import Derived.LaidMore
import Derived.Deep.DeepLaidRun
import Derived.Lib.LaidCase
import Derived.PinnedBridge
import Derived.Lay
import Derived.Shelf.Vars
namespace Go.Proofs.YtebhipeeogoagaaGreatDoor
set_option maxHeartbeats 32000000
set_option linter.unusedVariables false
set_option maxRecDepth 100000
open Go.ChangeShapes Go.WideShapes Go.ChangeAt Go.RowKit
theorem typesN:Tryz.prog.types.size=308:=by kernel_rfl
theorem own:ownKnob Tryz.prog.godebug=none:=by kernel_rfl
theorem gErr : Tryz.prog.globalNamed "errors.errorType" = some 0 := by kernel_rfl
theorem cutRt : (Tryz.prog.cutTypes.find? (·.1 == "internal/reflectlite.rtype")).map (·.2) = some 158 := by kernel_rfl
theorem oneRow:((List.range 308).filter fun t=>Tryz.prog.rowNamed t [101,114,114,111,114])= [30]:=by kernel_rfl
def laidN:List (String×DataW Unit):=Rows.normOrdersRow.laid
theorem globE_of {W:World} (h:laidMetH Tryz.prog laidN W):GlobE W:=by
 have h' : laidMet Tryz.prog (laidN.filter fun x => x.2.handleName?.isNone) W ∧ handlesMet Tryz.prog [("errors.errorType", Rows.laid_errors_errorType)] W := h
 obtain⟨name,u,ty,e1,e2,e3,e4,e5⟩:=h'.2 _ (List.mem_singleton.2 rfl)
 have en:name= [101,114,114,111,114]:=(Option.some.inj e1).symm
 subst en
 obtain rfl:=Option.some.inj (cutRt.symm.trans e2)
 have hm:ty∈(List.range 308).filter fun t=>Tryz.prog.rowNamed t [101,114,114,111,114]:=List.mem_filter.2 ⟨List.mem_range.2 (by rw[←typesN];exact e3),e4⟩
 rw[oneRow]at hm
 obtain rfl:=List.mem_singleton.1 hm
 have hh:typeHandle Tryz.prog 30= .pointer (some ⟨7,30,none⟩):=by kernel_rfl
 rw[hh]at e5
 have hc:W.cell? ⟨0,0,none⟩=some (.iface 158 (.agg #[.pointer (some ⟨7,30,none⟩)])):=by simpa using World.var?_cell gErr e5 0
 exact⟨hc,World.block_lt_of_cell? W _ hc⟩
def renU:Go.Shelf.Ren:=⟨fun n=>n,fun | 5=>5 | 119=>185 | 138=>187 | 139=>188 | n=>n,fun | 3=>1 | 4=>2 | n=>n⟩
theorem u8t:U8Types Tryz.prog renU:={t5:=by kernel_rfl,t119:=by kernel_rfl,t138:=by kernel_rfl,t139:=by kernel_rfl}
theorem u8x:U8Extra Tryz.prog renU:={n3:=by kernel_rfl,n4:=by kernel_rfl,y3:=by kernel_rfl,y4:=by kernel_rfl,c5:=by kernel_rfl,c119:=by kernel_rfl,c138:=by kernel_rfl}
theorem caseX:CaseExtra Tryz.prog Tryz.lays159_ren:=⟨by kernel_rfl,by kernel_rfl,by kernel_rfl,by kernel_rfl,by kernel_rfl,by kernel_rfl⟩
def plainN : List (String × DataW Unit) := [("unicode/utf8.acceptRanges", Rows.laid_unicode_utf8_acceptRanges), ("unicode.asciiFold", Rows.laid_unicode_asciiFold), ("unicode.caseOrbit", Rows.laid_unicode_caseOrbit), ("unicode.CaseRanges", Rows.laid_unicode_CaseRanges), ("unicode/utf8.first", Rows.laid_unicode_utf8_first)]
theorem filtN:(laidN.filter fun x=>x.2.handleName?.isNone)=plainN:=rfl
theorem env_of {W:World} (h:laidMetH Tryz.prog laidN W) (hs:W.ShapedOpen Tryz.prog):EN W:=by
 have h':laidMet Tryz.prog (laidN.filter fun x=>x.2.handleName?.isNone) W:=h.1
 rw[filtN]at h'
 have h1 := Lib.laidMet.reads h' (n := "unicode.CaseRanges") (d := Rows.laid_unicode_CaseRanges) (.tail _ (.tail _ (.tail _ (.head _))))
 have h3 := Lib.laidMet.reads h' (n := "unicode/utf8.first") (d := Rows.laid_unicode_utf8_first) (.tail _ (.tail _ (.tail _ (.tail _ (.head _)))))
 have h4 := Lib.laidMet.reads h' (n := "unicode/utf8.acceptRanges") (d := Rows.laid_unicode_utf8_acceptRanges) (.head _)
 have e1:Rows.laid_unicode_CaseRanges=Lib.caseData:=Pinned.caseRanges_eq
 have e3:(Rows.laid_unicode_utf8_first:DataW Unit)=Lib.firstData:=Pinned.utf8First_eq
 have e4:(Rows.laid_unicode_utf8_acceptRanges:DataW Unit)=Lib.acceptData:=by kernel_rfl
 rw[e1]at h1
 rw[e3]at h3
 rw[e4]at h4
 exact⟨utf8Tabs_of_readsT u8t u8x h3 h4,cell_of_shapedOpen_int (P:=Tryz.prog) (g:=3) (t:=3) (zero:= #[.int .i64 0]) hs (of_decide_eq_true (by kernel_rfl)) (by kernel_rfl) rfl (by kernel_rfl) (by kernel_rfl) Tryz.underlying3,caseVar_of_reads {Tryz.lays159 with} Tryz.lays159.t206 caseX h1⟩
noncomputable def w0N (os:Os):World:=
 {World.holding Tryz.prog os ⟨#[],#[],[]⟩with heap:=(World.holding Tryz.prog os ⟨#[],#[],[]⟩).heap.modify 0 fun
   | .cells _ t frozen=> .cells #[.iface 158 (.agg #[.pointer (some ⟨7,30,none⟩)])] t frozen
   | o=>o}
noncomputable def laidWorld (os:Os):World:=(w0N os).layVars Tryz.prog plainN
theorem laid_met (os:Os) (args:Array Value):laidMetH Tryz.prog laidN ((laidWorld os).forCall (fun _ _=>0) ⟨#[],args,[]⟩).memory:=by
 have e1:(plainN.filter fun x=>(plainN.map (·.1)).contains x.1)=plainN:=List.filter_eq_self.2 fun x hx=>List.contains_iff_mem.2 (List.mem_map.2 ⟨x,hx,rfl⟩)
 have e2:(plainN.filter fun x=> !(plainN.map (·.1)).contains x.1)= []:=List.filter_eq_nil_iff.2 fun x hx=>by rw[List.contains_iff_mem.2 (List.mem_map.2 ⟨x,hx,rfl⟩)];simp
 have h:laidMet Tryz.prog plainN (laidWorld os):=laidMet_layVars (w0:=w0N os) (plainN.map (·.1)) [] (by rw[e1];rfl) (by rw[e1];kernel_rfl) (by rw[e1];kernel_rfl) (by rw[e2];exact LaidIn.none)
 exact laidMetH_of_parts3 (fuel:=8) (by rw[filtN];exact h.of_heap (by simp[World.memory,World.forCall,Input.heap])) (by kernel_rfl) (by kernel_rfl)
theorem laidOutP:laidOutB Tryz.prog=true:=by kernel_rfl
theorem rowedP:mapsRowed Tryz.prog=true:=by kernel_rfl
theorem slicesP:∀t e,t< Tryz.prog.types.size→Tryz.prog.underlying t=some (.slice e)→0< Tryz.prog.cellsOf e:=slices_full_of _ (by kernel_rfl)
theorem trodAll_later {H:Type} {enc:TypeId×Value→H} {W W':World} {base:Nat} {sp:Nat→Bool} {held:Bool} (hB:∀p:MemPlace,p.block< W.heap.size→W.sameAt W' p):∀{ts:List TypeId} {vs:List Value} {ds:List (DataW H)} {ps:List MemPlace},
  DataW.TrodAll enc Tryz.prog W base sp held ts vs ds ps→DataW.TrodAll enc Tryz.prog W' base sp held ts vs ds ps
 | [],[],[],_,h=>h
 | _::_,_::_,_::_,_,⟨p,q,⟨n,h1⟩,h2,e⟩=>⟨p,q,⟨n,DataW.trod_carry n _ _ _ h1 fun x hx=>hB x (DataW.trod_lt n _ _ _ h1 x hx)⟩,trodAll_later hB h2,e⟩
theorem ext_same {W W':World} (h:Ext W W') (p:MemPlace) (hp:p.block< W.heap.size):W.sameAt W' p:=by
 have hb:=Below.block h p.block hp
 cases p with
 | cell b o=>exact World.cell?_of_block (a:=⟨b,o,none⟩) hb
 | map b=>exact hb
theorem slice_arg {W:World} {t e:TypeId} {v u:Value} (ht:Tryz.prog.underlying t=some (.slice e)) (hval:Value.okWide Tryz.prog W .any 0 t v) (h:v.cells.toList= [u]):v=u:=by
 unfold Value.okWide at hval
 rw[ht]at hval
 cases v with
 | agg cs=>unfold Cell.okWide at hval;rw[ht]at hval;unfold Cell.ok at hval;rw[ht]at hval;exact hval.elim
 | tuple cs=>unfold Cell.okWide at hval;rw[ht]at hval;unfold Cell.ok at hval;rw[ht]at hval;exact hval.elim
 | _=>simp[Value.cells]at h;exact h
end Go.Proofs.YtebhipeeogoagaaGreatDoor
