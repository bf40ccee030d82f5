import Derived.Test.YtimeipjcmffadaaGreatDoorPsrV
namespace Go.Proofs.YtimeipjcmffadaaGreatDoor
open Go.RowKit Go.Lib
set_option maxRecDepth 100000
structure Tst (w0:World) (b:Nat) (ya:PN) (ta:Tr) (p g cap long:Nat) (T:List Lx.Tok) (s:PSt) (W:World):Prop where
 rs:PsAt W p g cap long T s
 le:LeP p w0 W
 bx:Blk W b ya.cells 24
 res:Blk W w0.heap.size z6 24
 tr:TrAt (fun g=>w0.heap.size<g/\g<b) W ya ta
 hb:w0.heap.size<b
 hp:p<w0.heap.size
 hg:g<w0.heap.size
section
variable {w0 W W':World} {b:Nat} {ya:PN} {ta:Tr} {p g cap long:Nat} {T:List Lx.Tok} {s s':PSt}
theorem Tst.call (h:Tst w0 b ya ta p g cap long T s W) (h1:PsAt W' p g cap long T s') (h2:LeP p W W'):Tst w0 b ya ta p g cap long T s' W' :=
 ⟨h1,h.le.trans h2,h2.blk h.bx (by have:=h.hp;have:=h.hb;omega),h2.blk h.res (by have:=h.hp;omega),h.tr.later (p:=p) (fun g k=>by have:=h.hp;omega) h2,h.hb,h.hp,h.hg⟩
theorem Tst.ext (h:Tst w0 b ya ta p g cap long T s W) (hx:Ext W W'):Tst w0 b ya ta p g cap long T s W':=h.call (h.rs.ext hx) (LeP.ofExt hx)
theorem Tst.store (h:Tst w0 b ya ta p g cap long T s W) {c:Nat} (hc:b<c) (o:Nat) (v:Value):Tst w0 b ya ta p g cap long T s (W.setCell ⟨c,o,none⟩ v) :=
 have hb:=h.hb;have hp:=h.hp;have hg:=h.hg
 ⟨h.rs.other (by omega) (by omega) o v,h.le.other (by omega) o v,h.bx.other (a:=⟨c,o,none⟩) (by show b≠c;omega) v,h.res.other (a:=⟨c,o,none⟩) (by show w0.heap.size≠c;omega) v,h.tr.same (fun g k _=>heap_setCell_other W ⟨c,o,none⟩ g v (by show g≠c;omega)) (by simp),h.hb,h.hp,h.hg⟩
theorem Tst.row (h:Tst w0 b ya ta p g cap long T s W) {c:Nat} (hc:b<c) (V:Array Value):Tst w0 b ya ta p g cap long T s (W.setRow c V) :=
 have hb:=h.hb;have hp:=h.hp;have hg:=h.hg
 ⟨h.rs.row (by omega) (by omega) V,h.le.row (by omega) V,(setRow_other W c b V (by omega)).trans h.bx,(setRow_other W c w0.heap.size V (by omega)).trans h.res,h.tr.row (b:=c) (fun g k=>by omega) V,h.hb,h.hp,h.hg⟩
theorem Tst.grown (h:Tst w0 b ya ta p g cap long T s W) {c:Nat} (hg:W.grownBy W' (some c)) (hc:b<c):Tst w0 b ya ta p g cap long T s W' :=
 have hb:=h.hb;have hp:=h.hp;have hgl:=h.hg
 ⟨⟨(hg.block p h.rs.blk.lt (fun e=>by have:=Option.some.inj e;omega)).trans h.rs.blk,h.rs.tok.ext (hg.block g h.rs.tok.1 (fun e=>by have:=Option.some.inj e;omega)) hg.size,h.rs.ne,h.rs.le,h.rs.cap,h.rs.few⟩,
  ⟨hg.os.trans h.le.os,hg.tape.trans h.le.tape,hg.output.trans h.le.out,Nat.le_trans h.le.size hg.size,fun i hi hn=>(hg.block i (Nat.lt_of_lt_of_le hi h.le.size) (fun e=>by have:=Option.some.inj e;omega)).trans (h.le.old i hi hn)⟩,
  (hg.block _ h.bx.lt (fun e=>by have:=Option.some.inj e;omega)).trans h.bx,(hg.block _ h.res.lt (fun e=>by have:=Option.some.inj e;omega)).trans h.res,
  h.tr.same (fun g k hl=>hg.block g hl (fun e=>by have:=Option.some.inj e;omega)) hg.size,h.hb,h.hp,h.hg⟩
theorem Tst.fin (h:Tst w0 b ya ta p g cap long T s W) (x:PN) (r:Tr) (hT:TrAt (fun g=>w0.heap.size<g) W x r) (a b' c d e f:Value):LevPost p g cap long T r s w0 (.returned x.v) ((((((W.setCell ⟨w0.heap.size,0,none⟩ a).setCell ⟨w0.heap.size,1,none⟩ b').setCell ⟨w0.heap.size,2,none⟩ c).setCell ⟨w0.heap.size,3,none⟩ d).setCell ⟨w0.heap.size,4,none⟩ e).setCell ⟨w0.heap.size,5,none⟩ f) :=
 ⟨x,rfl,(hT.set6 (b:=w0.heap.size) (fun g k=>by omega) _ _ _ _ _ _).mono (fun g k _=>Nat.le_of_lt k),h.rs.other6 (by have:=h.hp;omega) (by have:=h.hg;omega) _ _ _ _ _ _,h.le.other6 (Nat.le_refl _) _ _ _ _ _ _⟩
theorem Tst.finRow (h:Tst w0 b ya ta p g cap long T s W) (x:PN) (r:Tr) (hT:TrAt (fun g=>w0.heap.size<g) W x r) (V:Array Value):LevPost p g cap long T r s w0 (.returned x.v) (W.setRow w0.heap.size V) :=
 ⟨x,rfl,(hT.row (b:=w0.heap.size) (fun g k=>by omega) _).mono (fun g k _=>Nat.le_of_lt k),h.rs.row (by have:=h.hp;omega) (by have:=h.hg;omega) _,h.le.row (Nat.le_refl _) _⟩
theorem Tst.own (h:Tst w0 b ya ta p g cap long T s W):TrAt (fun g=>w0.heap.size<g) W ya ta:=h.tr.mono fun _ k _=>k.1
end
def wordsP (rec:Nat->PSt->Option (Tr × PSt)) (T:List Lx.Tok) (long f k:Nat) (a:Tr) (nt:Bool) (s:PSt):Option (Tr × PSt) :=
 if isB T s 2 [76,73,75,69] then (rec (k+1) (advP true s)).bind fun m =>
  if isB T m.2 2 [69,83,67,65,80,69] then (rec (k+1) (advP true m.2)).map fun q=>(.mk 8 0 [] [] (if nt then 1 else 0) [a,m.1,q.1],q.2)
  else some (.mk 8 0 [] [] (if nt then 1 else 0) [a,m.1],m.2)
 else if isB T s 2 [66,69,84,87,69,69,78] then (rec (k+1) (advP true s)).bind fun m=>(rec (k+1) (wantW T long m.2 [65,78,68])).map fun q=>(.mk 10 0 [] [] (if nt then 1 else 0) [a,m.1,q.1],q.2)
 else if isB T s 2 [73,78] then inlF rec T long f a (if nt then 1 else 0) (advP true s)
 else if nt then some (a,wrongP T long 10 s)
 else some (a,s)
def afterP (rec:Nat->PSt->Option (Tr × PSt)) (T:List Lx.Tok) (long f k:Nat) (a:Tr) (s:PSt):Option (Tr × PSt) :=
 if isB T s 2 [73,83] then some (.mk 7 0 [] [] (if isB T (advP true s) 2 [78,79,84] then 1 else 0) [a],wantW T long (advP (isB T (advP true s) 2 [78,79,84]) (advP true s)) [78,85,76,76])
 else wordsP rec T long f k a (isB T s 2 [78,79,84]) (advP (isB T s 2 [78,79,84]) s)
def testP (rec:Nat->PSt->Option (Tr × PSt)) (T:List Lx.Tok) (long f k:Nat) (s:PSt):Option (Tr × PSt):=(rec (k+1) s).bind fun n =>
 if (findF T n.2 (binsL k)).1=0 then afterP rec T long f k n.1 (findF T n.2 (binsL k)).2
 else (rec (k+1) (findF T n.2 (binsL k)).2).bind fun m=>some (.mk 6 (findF T n.2 (binsL k)).1 [] [] 0 [n.1,m.1],m.2)
end Go.Proofs.YtimeipjcmffadaaGreatDoor
