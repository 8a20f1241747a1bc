/- The document's Step: writes, tells. The document's Step: a write, pointers. The document's Step: a pointer out of memory. -/
import Derived.Test.YtiakonmamkfopaaZTk
import Derived.Test.YtiakonmamkfopaaZCpuTb
namespace Go.Proofs.Ytiakonmamkfopaa
open Go.RowKit Go.ChangeShapes
set_option linter.unusedVariables false
set_option maxRecDepth 1000000
theorem wp_store_rs {op : Oper} {a : Act} {W : World} {K : Act → World → Prop} {Q : Exit → Act → World → Prop} (x y : Operand) (ho : op.op = .store 39 x y) {N : Nat} {s s' : St} {stk stk' : Value} (hx : a.eval x = .pointer (some ⟨N, 0, none⟩)) (hy : a.eval y = .agg #[.int .i64 s'.seg, .int .i64 s'.off, .int .i64 s'.ring, .int .i64 s'.a, .int .i64 s'.p0.seg, .int .i64 s'.p0.off, .int .i64 s'.p0.ring, .int .i64 s'.p1.seg, .int .i64 s'.p1.off, .int .i64 s'.p1.ring, .int .i64 s'.p2.seg, .int .i64 s'.p2.off, .int .i64 s'.p2.ring, .int .i64 s'.p3.seg, .int .i64 s'.p3.off, .int .i64 s'.p3.ring, stk', .bool s'.hal])
    (h : rsAt W N s stk) (h1 : stk'.oneCell' = true) (hk : ∀ W', rsAt W' N s' stk' → Off (· = N) W W' → K (a.put op.dst undef) W') : op.wp Try.prog a W K Q := by
  refine wp_store_mid 39 x y ho N 0 (stC s' stk') hx hy (fun j hj => ⟨by rw [Nat.zero_add, h.cell j]; have : j < (stC s stk).size := hj; simp [this], h.free _⟩) A.rstateI (by simp only [stC, List.all_toArray, List.all_cons, h1]; rfl) (hk _ ?_ ?_)
  · exact rset18 h (.int .i64 s'.seg) (.int .i64 s'.off) (.int .i64 s'.ring) (.int .i64 s'.a) (.int .i64 s'.p0.seg) (.int .i64 s'.p0.off) (.int .i64 s'.p0.ring) (.int .i64 s'.p1.seg) (.int .i64 s'.p1.off) (.int .i64 s'.p1.ring) (.int .i64 s'.p2.seg) (.int .i64 s'.p2.off) (.int .i64 s'.p2.ring) (.int .i64 s'.p3.seg) (.int .i64 s'.p3.off) (.int .i64 s'.p3.ring) stk' (.bool s'.hal)
  · exact off18 W N (.int .i64 s'.seg) (.int .i64 s'.off) (.int .i64 s'.ring) (.int .i64 s'.a) (.int .i64 s'.p0.seg) (.int .i64 s'.p0.off) (.int .i64 s'.p0.ring) (.int .i64 s'.p1.seg) (.int .i64 s'.p1.off) (.int .i64 s'.p1.ring) (.int .i64 s'.p2.seg) (.int .i64 s'.p2.off) (.int .i64 s'.p2.ring) (.int .i64 s'.p3.seg) (.int .i64 s'.p3.off) (.int .i64 s'.p3.ring) stk' (.bool s'.hal)
set_option maxHeartbeats 8000000 in
theorem sw2a {W : World} {b2 b4 b5 b9 b11 b12 b14 n' c P : Nat} {ad : Option Addr} {s t : St} {n : Int} {g : Sg} {u mv : Value} {v0 v3 aO aP aQ aR aS aT aU aV aW aX aa ab ac ae af ag ah ai aj ak al am an ao ap aq ar av aw ax ay az aA aB aC aD aE aF aG aH aI aJ aK aL aY aZ a0 a1 a2 a4 a5 a6 a7 a8 a9 ba bb bc bd be bf bg bh bi bj bk bl bm bn bo bp bq br bs bt bu bv bw bx bz bA bB bC bD bE bF bG bH bI bJ bK bL bM bN bO bP bQ bR bS bT bU bV bW bX bY bZ b0 b1 b3 b6 b7 b8 ca cb cc cd ce cg ch ci cj ck cl cm cn co cq cr cs ct cu cv cw cx cy cz cA cB cC cD cE cF cG cH cI cJ cK cL cM cN cO cP cQ cR cS cT cU cV cW cX cY cZ c3 c4 c5 c6 c7 c8 c9 da db dc dd de df dg dh di dj dk dl dm dn dp dq dr ds dt du dv dw dx dy dz dA dB dC dD dE dF dG dH dI dJ dK dL dM dN dO dP dQ dR dS dT dU dV dW dX dY dZ d0 d1 d2 d3 d4 d5 d6 d7 d8 d9 ea ec ed ee ef eg eh ei ej ek el em en eo ep eq es et eu ev ew ey ez eA eB eC eD eE eF eG eH eI eJ eK eL eM eN eO eP eQ eR eS eT eU eV eW eX eY eZ e0 e1 e2 e3 e4 e5 e6 e7 e8 e9 fa fb fc fd fe ff fg fh fi fj fk fl fm fn fo fp fq fr fs ft fu fv fw fx fy fz fA fB fC fD fE aM aN : Value} {Q : Exit → Act → World → Prop} (E : SE W b2 b4 b5 b9 b11 b12 b14 s t (.slice ad n' c) 2 n P g u) (hg : g.is = false)
    (hQ : ∀ (fF fG fH fI fJ fK fL fM fN fO fP fQ fR fS fT fU fV fW fX fY fZ f0 f1 f2 f3 f4 f5 f6 f7 f8 f9 ga gb gc gd ge gf gg gh gi gj gk gl gm gn gp gq gr gs gt gu gv gw gx gy gz gA gB gC gD gE gF gG gH gI gJ gK gL gM gN gO gP gQ gR gS gT gU gV gW gX gY gZ g1 g7 g8 g9 ha hb hc hd hf hi hn hp hq hr hs ht hv hw hz hA hB hC hD hE hF hG hH hI hJ hL hN hR hT hU hV hW hX hY hZ h0 h2 h3 h4 h6 h7 h8 h9 ia ib ic ie ig ih ii ij ik il im io ip iq ir it iu iv iw ix iy iz iA iB iC iD iE iF iG iH iI iJ iK iL iM iN iO iP iQ iR iS iT iU iV iW iX iY iZ i3 i4 i5 i6 i7 i8 ja jb jc jd je jf jg jh ji jj jk jl jm jn jo jp jq jr js jt ju jv jw jx jy jz jA jB jC jD jE jF jG jH jI jJ jK jL jM jN jO jP jQ jR jS jT jU jV jW jX jY jZ j0 j1 j2 j3 j4 j5 j6 j7 j8 j9 ka kb kc kd ke kf kg kh ki kj kk kl km kn ko kp kq kr ks kt ku kv kw kx ky kz kA kB kC kD kE kF kG kH kI kJ kK kL kM kN kO : Value) (W' : World), OutP W W' b4 b5 St.zero (.slice none 0 0) false 0 0 0 → Q .ret ⟨(v0::mv::(.pointer (some ⟨b2, 0, none⟩))::v3::(.pointer (some ⟨b4, 0, none⟩))::(.pointer (some ⟨b5, 0, none⟩))::(.int .i64 0)::(.bool false)::(.int .i64 35)::(.pointer (some ⟨b9, 0, none⟩))::fF::(.pointer (some ⟨b11, 0, none⟩))::(.pointer (some ⟨b12, 0, none⟩))::(.int .i64 (s.eb (P : Int)))::(.pointer (some ⟨b14, 0, none⟩))::fG::fH::fI::fJ::fK::fL::fM::fN::fO::aa::ab::ac::ae::af::ag::ah::ai::aj::ak::al::am::an::ao::ap::aq::ar::av::aw::ax::ay::az::aA::aB::aC::aD::aE::aF::aG::aH::aI::aJ::aK::aL::fP::fQ::fR::fS::fT::fU::fV::fW::fX::fY::fZ::f0::f1::f2::f3::f4::f5::f6::f7::f8::f9::ga::gb::gc::gd::ge::gf::gg::gh::gi::gj::gk::gl::gm::gn::gp::gq::gr::gs::gt::gu::gv::gw::gx::gy::gz::gA::gB::gC::gD::gE::gF::gG::gH::gI::gJ::gK::gL::gM::gN::gO::gP::gQ::gR::gS::gT::gU::gV::gW::gX::gY::gZ::g1::g7::g8::g9::ha::hb::hc::hd::hf::hi::hn::hp::hq::hr::hs::ht::hv::hw::hz::hA::hB::hC::hD::hE::hF::hG::hH::hI::hJ::hL::hN::hR::hT::hU::hV::hW::hX::hY::hZ::h0::h2::h3::h4::h6::h7::h8::h9::ia::ib::ic::ie::ig::ih::ii::ij::ik::il::im::io::ip::iq::ir::it::iu::iv::iw::ix::iy::iz::iA::iB::iC::iD::iE::iF::iG::iH::iI::iJ::iK::iL::iM::iN::iO::iP::iQ::iR::iS::iT::iU::iV::iW::iX::iY::iZ::i3::i4::i5::i6::i7::i8::ja::jb::jc::jd::je::jf::jg::jh::ji::jj::jk::jl::jm::jn::jo::jp::jq::jr::js::jt::ju::jv::jw::jx::jy::jz::jA::jB::jC::jD::jE::jF::jG::jH::jI::jJ::jK::jL::jM::jN::jO::jP::jQ::jR::jS::jT::jU::jV::jW::jX::jY::jZ::j0::j1::j2::j3::j4::j5::j6::j7::j8::j9::ka::kb::kc::kd::ke::kf::kg::kh::ki::kj::kk::kl::km::kn::ko::kp::kq::kr::ks::kt::ku::kv::kw::kx::ky::kz::kA::kB::kC::kD::kE::kF::kG::kH::kI::kJ::kK::kL::kM::kN::kO::aM::aN::[]).toArray, []⟩ W') : Code.wp Try.prog sw Q ⟨(v0::mv::(.pointer (some ⟨b2, 0, none⟩))::v3::(.pointer (some ⟨b4, 0, none⟩))::(.pointer (some ⟨b5, 0, none⟩))::(.int .i64 0)::(.bool false)::(.int .i64 0)::(.pointer (some ⟨b9, 0, none⟩))::aO::(.pointer (some ⟨b11, 0, none⟩))::(.pointer (some ⟨b12, 0, none⟩))::(.int .i64 (s.eb (P : Int)))::(.pointer (some ⟨b14, 0, none⟩))::aP::aQ::aR::aS::aT::aU::aV::aW::aX::aa::ab::ac::ae::af::ag::ah::ai::aj::ak::al::am::an::ao::ap::aq::ar::av::aw::ax::ay::az::aA::aB::aC::aD::aE::aF::aG::aH::aI::aJ::aK::aL::aY::aZ::a0::a1::a2::a4::a5::a6::a7::a8::a9::ba::bb::bc::bd::be::bf::bg::bh::bi::bj::bk::bl::bm::bn::bo::bp::bq::br::bs::bt::bu::bv::bw::bx::bz::bA::bB::bC::bD::bE::bF::bG::bH::bI::bJ::bK::bL::bM::bN::bO::bP::bQ::bR::bS::bT::bU::bV::bW::bX::bY::bZ::b0::b1::b3::b6::b7::b8::ca::cb::cc::cd::ce::cg::ch::ci::cj::ck::cl::cm::cn::co::cq::cr::cs::ct::cu::cv::cw::cx::cy::cz::cA::cB::cC::cD::cE::cF::cG::cH::cI::cJ::cK::cL::cM::cN::cO::cP::cQ::cR::cS::cT::cU::cV::cW::cX::cY::cZ::c3::c4::c5::c6::c7::c8::c9::da::db::dc::dd::de::df::dg::dh::di::dj::dk::dl::dm::dn::dp::dq::dr::ds::dt::du::dv::dw::dx::dy::dz::dA::dB::dC::dD::dE::dF::dG::dH::dI::dJ::dK::dL::dM::dN::dO::dP::dQ::dR::dS::dT::dU::dV::dW::dX::dY::dZ::d0::d1::d2::d3::d4::d5::d6::d7::d8::d9::ea::ec::ed::ee::ef::eg::eh::ei::ej::ek::el::em::en::eo::ep::eq::es::et::eu::ev::ew::ey::ez::eA::eB::eC::eD::eE::eF::eG::eH::eI::eJ::eK::eL::eM::eN::eO::eP::eQ::eR::eS::eT::eU::eV::eW::eX::eY::eZ::e0::e1::e2::e3::e4::e5::e6::e7::e8::e9::fa::fb::fc::fd::fe::ff::fg::fh::fi::fj::fk::fl::fm::fn::fo::fp::fq::fr::fs::ft::fu::fv::fw::fx::fy::fz::fA::fB::fC::fD::fE::aM::aN::[]).toArray, []⟩ W := by
  have i0 : W.cell? ⟨b9, 0, none⟩ = some (.int .i64 2) := E.i9.facts.1.1
  have g0 : W.cell? ⟨b14, 0, none⟩ = some (.bool false) := by rw [← hg]; exact E.g14.cell 0
  have q1 : W.cell? ⟨b12, 1, none⟩ = some (.int .i64 (s.pt P).off) := E.p12.facts.1.2.1
  have i2 : W.cell? ⟨b9, 2, none⟩ = some (.int .i64 n) := E.i9.facts.1.2.2
  have HY : Hid (blk4 W b5 45 (.bool false) (.int .i64 0) (.int .i64 0) (.int .i64 0)) := E.z5
  have HZ : Hid (rsAt W b4 St.zero (.slice none 0 0)) := E.z4
  have HD := Lib.hid E.d
  replace E := Lib.hid E
  conv => arg 2; whnf
  go_wp2_with (first | ((with_reducible refine wpList_store_rs (op := ⟨none, .store 39 (.tmp 4) (.tmp 133), _, _, _, _⟩) (N := b4) (s := St.zero) (stk := (.slice none 0 0)) (s' := St.zero) (stk' := (.slice none 0 0)) ?_ (.tmp 4) (.tmp 133) ?_ ?_ ?_ ?_ ?_ ?_); exact rfl; exact rfl; exact rfl; exact rfl; exact HZ.out; exact rfl; intro w9 S1 F1; have Y1 : Hid (blk4 w9 b5 45 (.bool false) (.int .i64 0) (.int .i64 0) (.int .i64 0)) := Off.keeps F1 HY.out (by have := HD.out; omega); have y0 : w9.cell? ⟨b5, 0, none⟩ = some (.bool false) := Y1.out.cell 0; have y1 : w9.cell? ⟨b5, 1, none⟩ = some (.int .i64 0) := Y1.out.cell 1; have y2 : w9.cell? ⟨b5, 2, none⟩ = some (.int .i64 0) := Y1.out.cell 2; have y3 : w9.cell? ⟨b5, 3, none⟩ = some (.int .i64 0) := Y1.out.cell 3; have yf : ∀ j, w9.frozen? ⟨b5, j, none⟩ = false := fun j => Y1.out.free j; replace S1 := Lib.hid S1; replace F1 := Lib.hid F1))
  exact (out4 S1.out F1.out Y1.out HD.out.2.1 false 0 0 0)
set_option maxHeartbeats 8000000 in
theorem sw2b {W : World} {b2 b4 b5 b9 b11 b12 b14 n' c P : Nat} {ad : Option Addr} {s t : St} {n : Int} {g : Sg} {u mv : Value} {v0 v3 aO aP aQ aR aS aT aU aV aW aX aa ab ac ae af ag ah ai aj ak al am an ao ap aq ar av aw ax ay az aA aB aC aD aE aF aG aH aI aJ aK aL aY aZ a0 a1 a2 a4 a5 a6 a7 a8 a9 ba bb bc bd be bf bg bh bi bj bk bl bm bn bo bp bq br bs bt bu bv bw bx bz bA bB bC bD bE bF bG bH bI bJ bK bL bM bN bO bP bQ bR bS bT bU bV bW bX bY bZ b0 b1 b3 b6 b7 b8 ca cb cc cd ce cg ch ci cj ck cl cm cn co cq cr cs ct cu cv cw cx cy cz cA cB cC cD cE cF cG cH cI cJ cK cL cM cN cO cP cQ cR cS cT cU cV cW cX cY cZ c3 c4 c5 c6 c7 c8 c9 da db dc dd de df dg dh di dj dk dl dm dn dp dq dr ds dt du dv dw dx dy dz dA dB dC dD dE dF dG dH dI dJ dK dL dM dN dO dP dQ dR dS dT dU dV dW dX dY dZ d0 d1 d2 d3 d4 d5 d6 d7 d8 d9 ea ec ed ee ef eg eh ei ej ek el em en eo ep eq es et eu ev ew ey ez eA eB eC eD eE eF eG eH eI eJ eK eL eM eN eO eP eQ eR eS eT eU eV eW eX eY eZ e0 e1 e2 e3 e4 e5 e6 e7 e8 e9 fa fb fc fd fe ff fg fh fi fj fk fl fm fn fo fp fq fr fs ft fu fv fw fx fy fz fA fB fC fD fE aM aN : Value} {Q : Exit → Act → World → Prop} (E : SE W b2 b4 b5 b9 b11 b12 b14 s t (.slice ad n' c) 2 n P g u) (hg : g.is = true) (hh : g.has 2 = false)
    (hQ : ∀ (fF fG fH fI fJ fK fL fM fN fO fP fQ fR fS fT fU fV fW fX fY fZ f0 f1 f2 f3 f4 f5 f6 f7 f8 f9 ga gb gc gd ge gf gg gh gi gj gk gl gm gn gp gq gr gs gt gu gv gw gx gy gz gA gB gC gD gE gF gG gH gI gJ gK gL gM gN gO gP gQ gR gS gT gU gV gW gX gY gZ g1 g7 g8 g9 ha hb hc hd hf hi hn hp hq hr hs ht hv hw hz hA hB hC hD hE hF hG hH hI hJ hL hN hR hT hU hV hW hX hY hZ h0 h2 h3 h4 h6 h7 h8 h9 ia ib ic ie ig ih ii ij ik il im io ip iq ir it iu iv iw ix iy iz iA iB iC iD iE iF iG iH iI iJ iK iL iM iN iO iP iQ iR iS iT iU iV iW iX iY iZ i3 i4 i5 i6 i7 i8 ja jb jc jd je jf jg jh ji jj jk jl jm jn jo jp jq jr js jt ju jv jw jx jy jz jA jB jC jD jE jF jG jH jI jJ jK jL jM jN jO jP jQ jR jS jT jU jV jW jX jY jZ j0 j1 j2 j3 j4 j5 j6 j7 j8 j9 ka kb kc kd ke kf kg kh ki kj kk kl km kn ko kp kq kr ks kt ku kv kw kx ky kz kA kB kC kD kE kF kG kH kI kJ kK kL kM kN kO : Value) (W' : World), OutP W W' b4 b5 St.zero (.slice none 0 0) false 0 0 0 → Q .ret ⟨(v0::mv::(.pointer (some ⟨b2, 0, none⟩))::v3::(.pointer (some ⟨b4, 0, none⟩))::(.pointer (some ⟨b5, 0, none⟩))::(.int .i64 0)::(.bool false)::(.int .i64 32)::(.pointer (some ⟨b9, 0, none⟩))::fF::(.pointer (some ⟨b11, 0, none⟩))::(.pointer (some ⟨b12, 0, none⟩))::(.int .i64 (s.eb (P : Int)))::(.pointer (some ⟨b14, 0, none⟩))::fG::fH::fI::fJ::fK::fL::fM::fN::fO::aa::ab::ac::ae::af::ag::ah::ai::aj::ak::al::am::an::ao::ap::aq::ar::av::aw::ax::ay::az::aA::aB::aC::aD::aE::aF::aG::aH::aI::aJ::aK::aL::fP::fQ::fR::fS::fT::fU::fV::fW::fX::fY::fZ::f0::f1::f2::f3::f4::f5::f6::f7::f8::f9::ga::gb::gc::gd::ge::gf::gg::gh::gi::gj::gk::gl::gm::gn::gp::gq::gr::gs::gt::gu::gv::gw::gx::gy::gz::gA::gB::gC::gD::gE::gF::gG::gH::gI::gJ::gK::gL::gM::gN::gO::gP::gQ::gR::gS::gT::gU::gV::gW::gX::gY::gZ::g1::g7::g8::g9::ha::hb::hc::hd::hf::hi::hn::hp::hq::hr::hs::ht::hv::hw::hz::hA::hB::hC::hD::hE::hF::hG::hH::hI::hJ::hL::hN::hR::hT::hU::hV::hW::hX::hY::hZ::h0::h2::h3::h4::h6::h7::h8::h9::ia::ib::ic::ie::ig::ih::ii::ij::ik::il::im::io::ip::iq::ir::it::iu::iv::iw::ix::iy::iz::iA::iB::iC::iD::iE::iF::iG::iH::iI::iJ::iK::iL::iM::iN::iO::iP::iQ::iR::iS::iT::iU::iV::iW::iX::iY::iZ::i3::i4::i5::i6::i7::i8::ja::jb::jc::jd::je::jf::jg::jh::ji::jj::jk::jl::jm::jn::jo::jp::jq::jr::js::jt::ju::jv::jw::jx::jy::jz::jA::jB::jC::jD::jE::jF::jG::jH::jI::jJ::jK::jL::jM::jN::jO::jP::jQ::jR::jS::jT::jU::jV::jW::jX::jY::jZ::j0::j1::j2::j3::j4::j5::j6::j7::j8::j9::ka::kb::kc::kd::ke::kf::kg::kh::ki::kj::kk::kl::km::kn::ko::kp::kq::kr::ks::kt::ku::kv::kw::kx::ky::kz::kA::kB::kC::kD::kE::kF::kG::kH::kI::kJ::kK::kL::kM::kN::kO::aM::aN::[]).toArray, []⟩ W') : Code.wp Try.prog sw Q ⟨(v0::mv::(.pointer (some ⟨b2, 0, none⟩))::v3::(.pointer (some ⟨b4, 0, none⟩))::(.pointer (some ⟨b5, 0, none⟩))::(.int .i64 0)::(.bool false)::(.int .i64 0)::(.pointer (some ⟨b9, 0, none⟩))::aO::(.pointer (some ⟨b11, 0, none⟩))::(.pointer (some ⟨b12, 0, none⟩))::(.int .i64 (s.eb (P : Int)))::(.pointer (some ⟨b14, 0, none⟩))::aP::aQ::aR::aS::aT::aU::aV::aW::aX::aa::ab::ac::ae::af::ag::ah::ai::aj::ak::al::am::an::ao::ap::aq::ar::av::aw::ax::ay::az::aA::aB::aC::aD::aE::aF::aG::aH::aI::aJ::aK::aL::aY::aZ::a0::a1::a2::a4::a5::a6::a7::a8::a9::ba::bb::bc::bd::be::bf::bg::bh::bi::bj::bk::bl::bm::bn::bo::bp::bq::br::bs::bt::bu::bv::bw::bx::bz::bA::bB::bC::bD::bE::bF::bG::bH::bI::bJ::bK::bL::bM::bN::bO::bP::bQ::bR::bS::bT::bU::bV::bW::bX::bY::bZ::b0::b1::b3::b6::b7::b8::ca::cb::cc::cd::ce::cg::ch::ci::cj::ck::cl::cm::cn::co::cq::cr::cs::ct::cu::cv::cw::cx::cy::cz::cA::cB::cC::cD::cE::cF::cG::cH::cI::cJ::cK::cL::cM::cN::cO::cP::cQ::cR::cS::cT::cU::cV::cW::cX::cY::cZ::c3::c4::c5::c6::c7::c8::c9::da::db::dc::dd::de::df::dg::dh::di::dj::dk::dl::dm::dn::dp::dq::dr::ds::dt::du::dv::dw::dx::dy::dz::dA::dB::dC::dD::dE::dF::dG::dH::dI::dJ::dK::dL::dM::dN::dO::dP::dQ::dR::dS::dT::dU::dV::dW::dX::dY::dZ::d0::d1::d2::d3::d4::d5::d6::d7::d8::d9::ea::ec::ed::ee::ef::eg::eh::ei::ej::ek::el::em::en::eo::ep::eq::es::et::eu::ev::ew::ey::ez::eA::eB::eC::eD::eE::eF::eG::eH::eI::eJ::eK::eL::eM::eN::eO::eP::eQ::eR::eS::eT::eU::eV::eW::eX::eY::eZ::e0::e1::e2::e3::e4::e5::e6::e7::e8::e9::fa::fb::fc::fd::fe::ff::fg::fh::fi::fj::fk::fl::fm::fn::fo::fp::fq::fr::fs::ft::fu::fv::fw::fx::fy::fz::fA::fB::fC::fD::fE::aM::aN::[]).toArray, []⟩ W := by
  have i0 : W.cell? ⟨b9, 0, none⟩ = some (.int .i64 2) := E.i9.facts.1.1
  have g0 : W.cell? ⟨b14, 0, none⟩ = some (.bool true) := by rw [← hg]; exact E.g14.cell 0
  have g2 : W.cell? ⟨b14, 2, none⟩ = some (.int .i64 g.md) := E.g14.cell 2
  have q1 : W.cell? ⟨b12, 1, none⟩ = some (.int .i64 (s.pt P).off) := E.p12.facts.1.2.1
  have i2 : W.cell? ⟨b9, 2, none⟩ = some (.int .i64 n) := E.i9.facts.1.2.2
  have hm : (bits .and .i64 g.md 2 == 0) = true := by unfold Sg.has at hh; simpa using hh
  clear hh
  have HY : Hid (blk4 W b5 45 (.bool false) (.int .i64 0) (.int .i64 0) (.int .i64 0)) := E.z5
  have HZ : Hid (rsAt W b4 St.zero (.slice none 0 0)) := E.z4
  have HD := Lib.hid E.d
  replace E := Lib.hid E
  conv => arg 2; whnf
  go_wp2_with (first | ((with_reducible refine wpList_store_rs (op := ⟨none, .store 39 (.tmp 4) (.tmp 133), _, _, _, _⟩) (N := b4) (s := St.zero) (stk := (.slice none 0 0)) (s' := St.zero) (stk' := (.slice none 0 0)) ?_ (.tmp 4) (.tmp 133) ?_ ?_ ?_ ?_ ?_ ?_); exact rfl; exact rfl; exact rfl; exact rfl; exact HZ.out; exact rfl; intro w9 S1 F1; have Y1 : Hid (blk4 w9 b5 45 (.bool false) (.int .i64 0) (.int .i64 0) (.int .i64 0)) := Off.keeps F1 HY.out (by have := HD.out; omega); have y0 : w9.cell? ⟨b5, 0, none⟩ = some (.bool false) := Y1.out.cell 0; have y1 : w9.cell? ⟨b5, 1, none⟩ = some (.int .i64 0) := Y1.out.cell 1; have y2 : w9.cell? ⟨b5, 2, none⟩ = some (.int .i64 0) := Y1.out.cell 2; have y3 : w9.cell? ⟨b5, 3, none⟩ = some (.int .i64 0) := Y1.out.cell 3; have yf : ∀ j, w9.frozen? ⟨b5, j, none⟩ = false := fun j => Y1.out.free j; replace S1 := Lib.hid S1; replace F1 := Lib.hid F1))
  exact (out4 S1.out F1.out Y1.out HD.out.2.1 false 0 0 0)
set_option maxHeartbeats 8000000 in
theorem sw2c {W : World} {b2 b4 b5 b9 b11 b12 b14 n' c P : Nat} {ad : Option Addr} {s t : St} {n : Int} {g : Sg} {u mv : Value} {v0 v3 aO aP aQ aR aS aT aU aV aW aX aa ab ac ae af ag ah ai aj ak al am an ao ap aq ar av aw ax ay az aA aB aC aD aE aF aG aH aI aJ aK aL aY aZ a0 a1 a2 a4 a5 a6 a7 a8 a9 ba bb bc bd be bf bg bh bi bj bk bl bm bn bo bp bq br bs bt bu bv bw bx bz bA bB bC bD bE bF bG bH bI bJ bK bL bM bN bO bP bQ bR bS bT bU bV bW bX bY bZ b0 b1 b3 b6 b7 b8 ca cb cc cd ce cg ch ci cj ck cl cm cn co cq cr cs ct cu cv cw cx cy cz cA cB cC cD cE cF cG cH cI cJ cK cL cM cN cO cP cQ cR cS cT cU cV cW cX cY cZ c3 c4 c5 c6 c7 c8 c9 da db dc dd de df dg dh di dj dk dl dm dn dp dq dr ds dt du dv dw dx dy dz dA dB dC dD dE dF dG dH dI dJ dK dL dM dN dO dP dQ dR dS dT dU dV dW dX dY dZ d0 d1 d2 d3 d4 d5 d6 d7 d8 d9 ea ec ed ee ef eg eh ei ej ek el em en eo ep eq es et eu ev ew ey ez eA eB eC eD eE eF eG eH eI eJ eK eL eM eN eO eP eQ eR eS eT eU eV eW eX eY eZ e0 e1 e2 e3 e4 e5 e6 e7 e8 e9 fa fb fc fd fe ff fg fh fi fj fk fl fm fn fo fp fq fr fs ft fu fv fw fx fy fz fA fB fC fD fE aM aN : Value} {Q : Exit → Act → World → Prop} (E : SE W b2 b4 b5 b9 b11 b12 b14 s t (.slice ad n' c) 2 n P g u) (hg : g.is = true) (hh : g.has 2 = true) (hmr : mayRead g.r1 (s.eb (P : Int)) = false)
    (hQ : ∀ (fF fG fH fI fJ fK fL fM fN fO fP fQ fR fS fT fU fV fW fX fY fZ f0 f1 f2 f3 f4 f5 f6 f7 f8 f9 ga gb gc gd ge gf gg gh gi gj gk gl gm gn gp gq gr gs gt gu gv gw gx gy gz gA gB gC gD gE gF gG gH gI gJ gK gL gM gN gO gP gQ gR gS gT gU gV gW gX gY gZ g1 g7 g8 g9 ha hb hc hd hf hi hn hp hq hr hs ht hv hw hz hA hB hC hD hE hF hG hH hI hJ hL hN hR hT hU hV hW hX hY hZ h0 h2 h3 h4 h6 h7 h8 h9 ia ib ic ie ig ih ii ij ik il im io ip iq ir it iu iv iw ix iy iz iA iB iC iD iE iF iG iH iI iJ iK iL iM iN iO iP iQ iR iS iT iU iV iW iX iY iZ i3 i4 i5 i6 i7 i8 ja jb jc jd je jf jg jh ji jj jk jl jm jn jo jp jq jr js jt ju jv jw jx jy jz jA jB jC jD jE jF jG jH jI jJ jK jL jM jN jO jP jQ jR jS jT jU jV jW jX jY jZ j0 j1 j2 j3 j4 j5 j6 j7 j8 j9 ka kb kc kd ke kf kg kh ki kj kk kl km kn ko kp kq kr ks kt ku kv kw kx ky kz kA kB kC kD kE kF kG kH kI kJ kK kL kM kN kO : Value) (W' : World), OutP W W' b4 b5 St.zero (.slice none 0 0) false 0 0 0 → Q .ret ⟨(v0::mv::(.pointer (some ⟨b2, 0, none⟩))::v3::(.pointer (some ⟨b4, 0, none⟩))::(.pointer (some ⟨b5, 0, none⟩))::(.int .i64 0)::(.bool false)::(.int .i64 32)::(.pointer (some ⟨b9, 0, none⟩))::fF::(.pointer (some ⟨b11, 0, none⟩))::(.pointer (some ⟨b12, 0, none⟩))::(.int .i64 (s.eb (P : Int)))::(.pointer (some ⟨b14, 0, none⟩))::fG::fH::fI::fJ::fK::fL::fM::fN::fO::aa::ab::ac::ae::af::ag::ah::ai::aj::ak::al::am::an::ao::ap::aq::ar::av::aw::ax::ay::az::aA::aB::aC::aD::aE::aF::aG::aH::aI::aJ::aK::aL::fP::fQ::fR::fS::fT::fU::fV::fW::fX::fY::fZ::f0::f1::f2::f3::f4::f5::f6::f7::f8::f9::ga::gb::gc::gd::ge::gf::gg::gh::gi::gj::gk::gl::gm::gn::gp::gq::gr::gs::gt::gu::gv::gw::gx::gy::gz::gA::gB::gC::gD::gE::gF::gG::gH::gI::gJ::gK::gL::gM::gN::gO::gP::gQ::gR::gS::gT::gU::gV::gW::gX::gY::gZ::g1::g7::g8::g9::ha::hb::hc::hd::hf::hi::hn::hp::hq::hr::hs::ht::hv::hw::hz::hA::hB::hC::hD::hE::hF::hG::hH::hI::hJ::hL::hN::hR::hT::hU::hV::hW::hX::hY::hZ::h0::h2::h3::h4::h6::h7::h8::h9::ia::ib::ic::ie::ig::ih::ii::ij::ik::il::im::io::ip::iq::ir::it::iu::iv::iw::ix::iy::iz::iA::iB::iC::iD::iE::iF::iG::iH::iI::iJ::iK::iL::iM::iN::iO::iP::iQ::iR::iS::iT::iU::iV::iW::iX::iY::iZ::i3::i4::i5::i6::i7::i8::ja::jb::jc::jd::je::jf::jg::jh::ji::jj::jk::jl::jm::jn::jo::jp::jq::jr::js::jt::ju::jv::jw::jx::jy::jz::jA::jB::jC::jD::jE::jF::jG::jH::jI::jJ::jK::jL::jM::jN::jO::jP::jQ::jR::jS::jT::jU::jV::jW::jX::jY::jZ::j0::j1::j2::j3::j4::j5::j6::j7::j8::j9::ka::kb::kc::kd::ke::kf::kg::kh::ki::kj::kk::kl::km::kn::ko::kp::kq::kr::ks::kt::ku::kv::kw::kx::ky::kz::kA::kB::kC::kD::kE::kF::kG::kH::kI::kJ::kK::kL::kM::kN::kO::aM::aN::[]).toArray, []⟩ W') : Code.wp Try.prog sw Q ⟨(v0::mv::(.pointer (some ⟨b2, 0, none⟩))::v3::(.pointer (some ⟨b4, 0, none⟩))::(.pointer (some ⟨b5, 0, none⟩))::(.int .i64 0)::(.bool false)::(.int .i64 0)::(.pointer (some ⟨b9, 0, none⟩))::aO::(.pointer (some ⟨b11, 0, none⟩))::(.pointer (some ⟨b12, 0, none⟩))::(.int .i64 (s.eb (P : Int)))::(.pointer (some ⟨b14, 0, none⟩))::aP::aQ::aR::aS::aT::aU::aV::aW::aX::aa::ab::ac::ae::af::ag::ah::ai::aj::ak::al::am::an::ao::ap::aq::ar::av::aw::ax::ay::az::aA::aB::aC::aD::aE::aF::aG::aH::aI::aJ::aK::aL::aY::aZ::a0::a1::a2::a4::a5::a6::a7::a8::a9::ba::bb::bc::bd::be::bf::bg::bh::bi::bj::bk::bl::bm::bn::bo::bp::bq::br::bs::bt::bu::bv::bw::bx::bz::bA::bB::bC::bD::bE::bF::bG::bH::bI::bJ::bK::bL::bM::bN::bO::bP::bQ::bR::bS::bT::bU::bV::bW::bX::bY::bZ::b0::b1::b3::b6::b7::b8::ca::cb::cc::cd::ce::cg::ch::ci::cj::ck::cl::cm::cn::co::cq::cr::cs::ct::cu::cv::cw::cx::cy::cz::cA::cB::cC::cD::cE::cF::cG::cH::cI::cJ::cK::cL::cM::cN::cO::cP::cQ::cR::cS::cT::cU::cV::cW::cX::cY::cZ::c3::c4::c5::c6::c7::c8::c9::da::db::dc::dd::de::df::dg::dh::di::dj::dk::dl::dm::dn::dp::dq::dr::ds::dt::du::dv::dw::dx::dy::dz::dA::dB::dC::dD::dE::dF::dG::dH::dI::dJ::dK::dL::dM::dN::dO::dP::dQ::dR::dS::dT::dU::dV::dW::dX::dY::dZ::d0::d1::d2::d3::d4::d5::d6::d7::d8::d9::ea::ec::ed::ee::ef::eg::eh::ei::ej::ek::el::em::en::eo::ep::eq::es::et::eu::ev::ew::ey::ez::eA::eB::eC::eD::eE::eF::eG::eH::eI::eJ::eK::eL::eM::eN::eO::eP::eQ::eR::eS::eT::eU::eV::eW::eX::eY::eZ::e0::e1::e2::e3::e4::e5::e6::e7::e8::e9::fa::fb::fc::fd::fe::ff::fg::fh::fi::fj::fk::fl::fm::fn::fo::fp::fq::fr::fs::ft::fu::fv::fw::fx::fy::fz::fA::fB::fC::fD::fE::aM::aN::[]).toArray, []⟩ W := by
  have i0 : W.cell? ⟨b9, 0, none⟩ = some (.int .i64 2) := E.i9.facts.1.1
  have g0 : W.cell? ⟨b14, 0, none⟩ = some (.bool true) := by rw [← hg]; exact E.g14.cell 0
  have g2 : W.cell? ⟨b14, 2, none⟩ = some (.int .i64 g.md) := E.g14.cell 2
  have g3 : W.cell? ⟨b14, 3, none⟩ = some (.int .i64 g.r1) := E.g14.cell 3
  have g4 : W.cell? ⟨b14, 4, none⟩ = some (.int .i64 g.r2) := E.g14.cell 4
  have g5 : W.cell? ⟨b14, 5, none⟩ = some (.int .i64 g.r3) := E.g14.cell 5
  have g6 : W.cell? ⟨b14, 6, none⟩ = some (.int .i64 g.g) := E.g14.cell 6
  have q1 : W.cell? ⟨b12, 1, none⟩ = some (.int .i64 (s.pt P).off) := E.p12.facts.1.2.1
  have i2 : W.cell? ⟨b9, 2, none⟩ = some (.int .i64 n) := E.i9.facts.1.2.2
  have hm : (bits .and .i64 g.md 2 == 0) = false := by unfold Sg.has at hh; simpa using hh
  clear hh
  have HY : Hid (blk4 W b5 45 (.bool false) (.int .i64 0) (.int .i64 0) (.int .i64 0)) := E.z5
  have HZ : Hid (rsAt W b4 St.zero (.slice none 0 0)) := E.z4
  have HD := Lib.hid E.d
  replace E := Lib.hid E
  conv => arg 2; whnf
  go_wp2_with (first | (go_at_call 47; refine (r_MayWrite _ _ _ _ _ _).mono ?_; rintro e w1 ⟨rfl, hb1⟩; rw [hmr]; have HB := Lib.hid hb1; replace HY : Hid (blk4 w1 b5 45 (.bool false) (.int .i64 0) (.int .i64 0) (.int .i64 0)) := Off.keeps (.of_below (ex := fun _ => False) hb1) HY.out id; replace HZ : Hid (rsAt w1 b4 St.zero (.slice none 0 0)) := Off.keeps (.of_below (ex := fun _ => False) hb1) HZ.out id; clear hb1) | ((with_reducible refine wpList_store_rs (op := ⟨none, .store 39 (.tmp 4) (.tmp 133), _, _, _, _⟩) (N := b4) (s := St.zero) (stk := (.slice none 0 0)) (s' := St.zero) (stk' := (.slice none 0 0)) ?_ (.tmp 4) (.tmp 133) ?_ ?_ ?_ ?_ ?_ ?_); exact rfl; exact rfl; exact rfl; exact rfl; exact HZ.out; exact rfl; intro w9 S1 F1; have Y1 : Hid (blk4 w9 b5 45 (.bool false) (.int .i64 0) (.int .i64 0) (.int .i64 0)) := Off.keeps F1 HY.out (by have := HD.out; omega); have y0 : w9.cell? ⟨b5, 0, none⟩ = some (.bool false) := Y1.out.cell 0; have y1 : w9.cell? ⟨b5, 1, none⟩ = some (.int .i64 0) := Y1.out.cell 1; have y2 : w9.cell? ⟨b5, 2, none⟩ = some (.int .i64 0) := Y1.out.cell 2; have y3 : w9.cell? ⟨b5, 3, none⟩ = some (.int .i64 0) := Y1.out.cell 3; have yf : ∀ j, w9.frozen? ⟨b5, j, none⟩ = false := fun j => Y1.out.free j; replace S1 := Lib.hid S1; replace F1 := Lib.hid F1))
  exact (out4 S1.out F1.out Y1.out HD.out.2.1 false 0 0 0).pre HB.out
set_option maxHeartbeats 8000000 in
theorem sw2d {W : World} {b2 b4 b5 b9 b11 b12 b14 n' c P : Nat} {ad : Option Addr} {s t : St} {n : Int} {g : Sg} {u mv : Value} {v0 v3 aO aP aQ aR aS aT aU aV aW aX aa ab ac ae af ag ah ai aj ak al am an ao ap aq ar av aw ax ay az aA aB aC aD aE aF aG aH aI aJ aK aL aY aZ a0 a1 a2 a4 a5 a6 a7 a8 a9 ba bb bc bd be bf bg bh bi bj bk bl bm bn bo bp bq br bs bt bu bv bw bx bz bA bB bC bD bE bF bG bH bI bJ bK bL bM bN bO bP bQ bR bS bT bU bV bW bX bY bZ b0 b1 b3 b6 b7 b8 ca cb cc cd ce cg ch ci cj ck cl cm cn co cq cr cs ct cu cv cw cx cy cz cA cB cC cD cE cF cG cH cI cJ cK cL cM cN cO cP cQ cR cS cT cU cV cW cX cY cZ c3 c4 c5 c6 c7 c8 c9 da db dc dd de df dg dh di dj dk dl dm dn dp dq dr ds dt du dv dw dx dy dz dA dB dC dD dE dF dG dH dI dJ dK dL dM dN dO dP dQ dR dS dT dU dV dW dX dY dZ d0 d1 d2 d3 d4 d5 d6 d7 d8 d9 ea ec ed ee ef eg eh ei ej ek el em en eo ep eq es et eu ev ew ey ez eA eB eC eD eE eF eG eH eI eJ eK eL eM eN eO eP eQ eR eS eT eU eV eW eX eY eZ e0 e1 e2 e3 e4 e5 e6 e7 e8 e9 fa fb fc fd fe ff fg fh fi fj fk fl fm fn fo fp fq fr fs ft fu fv fw fx fy fz fA fB fC fD fE aM aN : Value} {Q : Exit → Act → World → Prop} (len cp : Nat) (au : Option Addr) (hu : u = .slice au len cp) (E : SE W b2 b4 b5 b9 b11 b12 b14 s t (.slice ad n' c) 2 n P g u) (hg : g.is = true) (hh : g.has 2 = true) (hmr : mayRead g.r1 (s.eb (P : Int)) = true) (hoff : wrap64 ((s.pt P).off + n) < 0)
    (hQ : ∀ (fF fG fH fI fJ fK fL fM fN fO fP fQ fR fS fT fU fV fW fX fY fZ f0 f1 f2 f3 f4 f5 f6 f7 f8 f9 ga gb gc gd ge gf gg gh gi gj gk gl gm gn gp gq gr gs gt gu gv gw gx gy gz gA gB gC gD gE gF gG gH gI gJ gK gL gM gN gO gP gQ gR gS gT gU gV gW gX gY gZ g1 g7 g8 g9 ha hb hc hd hf hi hn hp hq hr hs ht hv hw hz hA hB hC hD hE hF hG hH hI hJ hL hN hR hT hU hV hW hX hY hZ h0 h2 h3 h4 h6 h7 h8 h9 ia ib ic ie ig ih ii ij ik il im io ip iq ir it iu iv iw ix iy iz iA iB iC iD iE iF iG iH iI iJ iK iL iM iN iO iP iQ iR iS iT iU iV iW iX iY iZ i3 i4 i5 i6 i7 i8 ja jb jc jd je jf jg jh ji jj jk jl jm jn jo jp jq jr js jt ju jv jw jx jy jz jA jB jC jD jE jF jG jH jI jJ jK jL jM jN jO jP jQ jR jS jT jU jV jW jX jY jZ j0 j1 j2 j3 j4 j5 j6 j7 j8 j9 ka kb kc kd ke kf kg kh ki kj kk kl km kn ko kp kq kr ks kt ku kv kw kx ky kz kA kB kC kD kE kF kG kH kI kJ kK kL kM kN kO : Value) (W' : World), OutP W W' b4 b5 St.zero (.slice none 0 0) false 0 0 0 → Q .ret ⟨(v0::mv::(.pointer (some ⟨b2, 0, none⟩))::v3::(.pointer (some ⟨b4, 0, none⟩))::(.pointer (some ⟨b5, 0, none⟩))::(.int .i64 0)::(.bool false)::(.int .i64 35)::(.pointer (some ⟨b9, 0, none⟩))::fF::(.pointer (some ⟨b11, 0, none⟩))::(.pointer (some ⟨b12, 0, none⟩))::(.int .i64 (s.eb (P : Int)))::(.pointer (some ⟨b14, 0, none⟩))::fG::fH::fI::fJ::fK::fL::fM::fN::fO::aa::ab::ac::ae::af::ag::ah::ai::aj::ak::al::am::an::ao::ap::aq::ar::av::aw::ax::ay::az::aA::aB::aC::aD::aE::aF::aG::aH::aI::aJ::aK::aL::fP::fQ::fR::fS::fT::fU::fV::fW::fX::fY::fZ::f0::f1::f2::f3::f4::f5::f6::f7::f8::f9::ga::gb::gc::gd::ge::gf::gg::gh::gi::gj::gk::gl::gm::gn::gp::gq::gr::gs::gt::gu::gv::gw::gx::gy::gz::gA::gB::gC::gD::gE::gF::gG::gH::gI::gJ::gK::gL::gM::gN::gO::gP::gQ::gR::gS::gT::gU::gV::gW::gX::gY::gZ::g1::g7::g8::g9::ha::hb::hc::hd::hf::hi::hn::hp::hq::hr::hs::ht::hv::hw::hz::hA::hB::hC::hD::hE::hF::hG::hH::hI::hJ::hL::hN::hR::hT::hU::hV::hW::hX::hY::hZ::h0::h2::h3::h4::h6::h7::h8::h9::ia::ib::ic::ie::ig::ih::ii::ij::ik::il::im::io::ip::iq::ir::it::iu::iv::iw::ix::iy::iz::iA::iB::iC::iD::iE::iF::iG::iH::iI::iJ::iK::iL::iM::iN::iO::iP::iQ::iR::iS::iT::iU::iV::iW::iX::iY::iZ::i3::i4::i5::i6::i7::i8::ja::jb::jc::jd::je::jf::jg::jh::ji::jj::jk::jl::jm::jn::jo::jp::jq::jr::js::jt::ju::jv::jw::jx::jy::jz::jA::jB::jC::jD::jE::jF::jG::jH::jI::jJ::jK::jL::jM::jN::jO::jP::jQ::jR::jS::jT::jU::jV::jW::jX::jY::jZ::j0::j1::j2::j3::j4::j5::j6::j7::j8::j9::ka::kb::kc::kd::ke::kf::kg::kh::ki::kj::kk::kl::km::kn::ko::kp::kq::kr::ks::kt::ku::kv::kw::kx::ky::kz::kA::kB::kC::kD::kE::kF::kG::kH::kI::kJ::kK::kL::kM::kN::kO::aM::aN::[]).toArray, []⟩ W') : Code.wp Try.prog sw Q ⟨(v0::mv::(.pointer (some ⟨b2, 0, none⟩))::v3::(.pointer (some ⟨b4, 0, none⟩))::(.pointer (some ⟨b5, 0, none⟩))::(.int .i64 0)::(.bool false)::(.int .i64 0)::(.pointer (some ⟨b9, 0, none⟩))::aO::(.pointer (some ⟨b11, 0, none⟩))::(.pointer (some ⟨b12, 0, none⟩))::(.int .i64 (s.eb (P : Int)))::(.pointer (some ⟨b14, 0, none⟩))::aP::aQ::aR::aS::aT::aU::aV::aW::aX::aa::ab::ac::ae::af::ag::ah::ai::aj::ak::al::am::an::ao::ap::aq::ar::av::aw::ax::ay::az::aA::aB::aC::aD::aE::aF::aG::aH::aI::aJ::aK::aL::aY::aZ::a0::a1::a2::a4::a5::a6::a7::a8::a9::ba::bb::bc::bd::be::bf::bg::bh::bi::bj::bk::bl::bm::bn::bo::bp::bq::br::bs::bt::bu::bv::bw::bx::bz::bA::bB::bC::bD::bE::bF::bG::bH::bI::bJ::bK::bL::bM::bN::bO::bP::bQ::bR::bS::bT::bU::bV::bW::bX::bY::bZ::b0::b1::b3::b6::b7::b8::ca::cb::cc::cd::ce::cg::ch::ci::cj::ck::cl::cm::cn::co::cq::cr::cs::ct::cu::cv::cw::cx::cy::cz::cA::cB::cC::cD::cE::cF::cG::cH::cI::cJ::cK::cL::cM::cN::cO::cP::cQ::cR::cS::cT::cU::cV::cW::cX::cY::cZ::c3::c4::c5::c6::c7::c8::c9::da::db::dc::dd::de::df::dg::dh::di::dj::dk::dl::dm::dn::dp::dq::dr::ds::dt::du::dv::dw::dx::dy::dz::dA::dB::dC::dD::dE::dF::dG::dH::dI::dJ::dK::dL::dM::dN::dO::dP::dQ::dR::dS::dT::dU::dV::dW::dX::dY::dZ::d0::d1::d2::d3::d4::d5::d6::d7::d8::d9::ea::ec::ed::ee::ef::eg::eh::ei::ej::ek::el::em::en::eo::ep::eq::es::et::eu::ev::ew::ey::ez::eA::eB::eC::eD::eE::eF::eG::eH::eI::eJ::eK::eL::eM::eN::eO::eP::eQ::eR::eS::eT::eU::eV::eW::eX::eY::eZ::e0::e1::e2::e3::e4::e5::e6::e7::e8::e9::fa::fb::fc::fd::fe::ff::fg::fh::fi::fj::fk::fl::fm::fn::fo::fp::fq::fr::fs::ft::fu::fv::fw::fx::fy::fz::fA::fB::fC::fD::fE::aM::aN::[]).toArray, []⟩ W := by
  have i0 : W.cell? ⟨b9, 0, none⟩ = some (.int .i64 2) := E.i9.facts.1.1
  subst hu
  have g0 : W.cell? ⟨b14, 0, none⟩ = some (.bool true) := by rw [← hg]; exact E.g14.cell 0
  have g2 : W.cell? ⟨b14, 2, none⟩ = some (.int .i64 g.md) := E.g14.cell 2
  have g3 : W.cell? ⟨b14, 3, none⟩ = some (.int .i64 g.r1) := E.g14.cell 3
  have g4 : W.cell? ⟨b14, 4, none⟩ = some (.int .i64 g.r2) := E.g14.cell 4
  have g5 : W.cell? ⟨b14, 5, none⟩ = some (.int .i64 g.r3) := E.g14.cell 5
  have g6 : W.cell? ⟨b14, 6, none⟩ = some (.int .i64 g.g) := E.g14.cell 6
  have q1 : W.cell? ⟨b12, 1, none⟩ = some (.int .i64 (s.pt P).off) := E.p12.facts.1.2.1
  have i2 : W.cell? ⟨b9, 2, none⟩ = some (.int .i64 n) := E.i9.facts.1.2.2
  have hm : (bits .and .i64 g.md 2 == 0) = false := by unfold Sg.has at hh; simpa using hh
  clear hh
  have HY : Hid (blk4 W b5 45 (.bool false) (.int .i64 0) (.int .i64 0) (.int .i64 0)) := E.z5
  have HZ : Hid (rsAt W b4 St.zero (.slice none 0 0)) := E.z4
  have HD := Lib.hid E.d
  replace E := Lib.hid E
  conv => arg 2; whnf
  go_wp2_with (first | (go_at_call 47; refine (r_MayWrite _ _ _ _ _ _).mono ?_; rintro e w1 ⟨rfl, hb1⟩; rw [hmr]; have HB := Lib.hid hb1; replace HY : Hid (blk4 w1 b5 45 (.bool false) (.int .i64 0) (.int .i64 0) (.int .i64 0)) := Off.keeps (.of_below (ex := fun _ => False) hb1) HY.out id; replace HZ : Hid (rsAt w1 b4 St.zero (.slice none 0 0)) := Off.keeps (.of_below (ex := fun _ => False) hb1) HZ.out id; clear hb1) | ((with_reducible refine wpList_store_rs (op := ⟨none, .store 39 (.tmp 4) (.tmp 133), _, _, _, _⟩) (N := b4) (s := St.zero) (stk := (.slice none 0 0)) (s' := St.zero) (stk' := (.slice none 0 0)) ?_ (.tmp 4) (.tmp 133) ?_ ?_ ?_ ?_ ?_ ?_); exact rfl; exact rfl; exact rfl; exact rfl; exact HZ.out; exact rfl; intro w9 S1 F1; have Y1 : Hid (blk4 w9 b5 45 (.bool false) (.int .i64 0) (.int .i64 0) (.int .i64 0)) := Off.keeps F1 HY.out (by have := HD.out; omega); have y0 : w9.cell? ⟨b5, 0, none⟩ = some (.bool false) := Y1.out.cell 0; have y1 : w9.cell? ⟨b5, 1, none⟩ = some (.int .i64 0) := Y1.out.cell 1; have y2 : w9.cell? ⟨b5, 2, none⟩ = some (.int .i64 0) := Y1.out.cell 2; have y3 : w9.cell? ⟨b5, 3, none⟩ = some (.int .i64 0) := Y1.out.cell 3; have yf : ∀ j, w9.frozen? ⟨b5, j, none⟩ = false := fun j => Y1.out.free j; replace S1 := Lib.hid S1; replace F1 := Lib.hid F1))
  exact (out4 S1.out F1.out Y1.out HD.out.2.1 false 0 0 0).pre HB.out
set_option maxHeartbeats 8000000 in
theorem sw2e {W : World} {b2 b4 b5 b9 b11 b12 b14 n' c P : Nat} {ad : Option Addr} {s t : St} {n : Int} {g : Sg} {u mv : Value} {v0 v3 aO aP aQ aR aS aT aU aV aW aX aa ab ac ae af ag ah ai aj ak al am an ao ap aq ar av aw ax ay az aA aB aC aD aE aF aG aH aI aJ aK aL aY aZ a0 a1 a2 a4 a5 a6 a7 a8 a9 ba bb bc bd be bf bg bh bi bj bk bl bm bn bo bp bq br bs bt bu bv bw bx bz bA bB bC bD bE bF bG bH bI bJ bK bL bM bN bO bP bQ bR bS bT bU bV bW bX bY bZ b0 b1 b3 b6 b7 b8 ca cb cc cd ce cg ch ci cj ck cl cm cn co cq cr cs ct cu cv cw cx cy cz cA cB cC cD cE cF cG cH cI cJ cK cL cM cN cO cP cQ cR cS cT cU cV cW cX cY cZ c3 c4 c5 c6 c7 c8 c9 da db dc dd de df dg dh di dj dk dl dm dn dp dq dr ds dt du dv dw dx dy dz dA dB dC dD dE dF dG dH dI dJ dK dL dM dN dO dP dQ dR dS dT dU dV dW dX dY dZ d0 d1 d2 d3 d4 d5 d6 d7 d8 d9 ea ec ed ee ef eg eh ei ej ek el em en eo ep eq es et eu ev ew ey ez eA eB eC eD eE eF eG eH eI eJ eK eL eM eN eO eP eQ eR eS eT eU eV eW eX eY eZ e0 e1 e2 e3 e4 e5 e6 e7 e8 e9 fa fb fc fd fe ff fg fh fi fj fk fl fm fn fo fp fq fr fs ft fu fv fw fx fy fz fA fB fC fD fE aM aN : Value} {Q : Exit → Act → World → Prop} (len cp : Nat) (au : Option Addr) (hu : u = .slice au len cp) (E : SE W b2 b4 b5 b9 b11 b12 b14 s t (.slice ad n' c) 2 n P g u) (hg : g.is = true) (hh : g.has 2 = true) (hmr : mayRead g.r1 (s.eb (P : Int)) = true) (hoff : ¬ wrap64 ((s.pt P).off + n) < 0) (hle : (len : Int) ≤ wrap64 ((s.pt P).off + n))
    (hQ : ∀ (fF fG fH fI fJ fK fL fM fN fO fP fQ fR fS fT fU fV fW fX fY fZ f0 f1 f2 f3 f4 f5 f6 f7 f8 f9 ga gb gc gd ge gf gg gh gi gj gk gl gm gn gp gq gr gs gt gu gv gw gx gy gz gA gB gC gD gE gF gG gH gI gJ gK gL gM gN gO gP gQ gR gS gT gU gV gW gX gY gZ g1 g7 g8 g9 ha hb hc hd hf hi hn hp hq hr hs ht hv hw hz hA hB hC hD hE hF hG hH hI hJ hL hN hR hT hU hV hW hX hY hZ h0 h2 h3 h4 h6 h7 h8 h9 ia ib ic ie ig ih ii ij ik il im io ip iq ir it iu iv iw ix iy iz iA iB iC iD iE iF iG iH iI iJ iK iL iM iN iO iP iQ iR iS iT iU iV iW iX iY iZ i3 i4 i5 i6 i7 i8 ja jb jc jd je jf jg jh ji jj jk jl jm jn jo jp jq jr js jt ju jv jw jx jy jz jA jB jC jD jE jF jG jH jI jJ jK jL jM jN jO jP jQ jR jS jT jU jV jW jX jY jZ j0 j1 j2 j3 j4 j5 j6 j7 j8 j9 ka kb kc kd ke kf kg kh ki kj kk kl km kn ko kp kq kr ks kt ku kv kw kx ky kz kA kB kC kD kE kF kG kH kI kJ kK kL kM kN kO : Value) (W' : World), OutP W W' b4 b5 St.zero (.slice none 0 0) false 0 0 0 → Q .ret ⟨(v0::mv::(.pointer (some ⟨b2, 0, none⟩))::v3::(.pointer (some ⟨b4, 0, none⟩))::(.pointer (some ⟨b5, 0, none⟩))::(.int .i64 0)::(.bool false)::(.int .i64 35)::(.pointer (some ⟨b9, 0, none⟩))::fF::(.pointer (some ⟨b11, 0, none⟩))::(.pointer (some ⟨b12, 0, none⟩))::(.int .i64 (s.eb (P : Int)))::(.pointer (some ⟨b14, 0, none⟩))::fG::fH::fI::fJ::fK::fL::fM::fN::fO::aa::ab::ac::ae::af::ag::ah::ai::aj::ak::al::am::an::ao::ap::aq::ar::av::aw::ax::ay::az::aA::aB::aC::aD::aE::aF::aG::aH::aI::aJ::aK::aL::fP::fQ::fR::fS::fT::fU::fV::fW::fX::fY::fZ::f0::f1::f2::f3::f4::f5::f6::f7::f8::f9::ga::gb::gc::gd::ge::gf::gg::gh::gi::gj::gk::gl::gm::gn::gp::gq::gr::gs::gt::gu::gv::gw::gx::gy::gz::gA::gB::gC::gD::gE::gF::gG::gH::gI::gJ::gK::gL::gM::gN::gO::gP::gQ::gR::gS::gT::gU::gV::gW::gX::gY::gZ::g1::g7::g8::g9::ha::hb::hc::hd::hf::hi::hn::hp::hq::hr::hs::ht::hv::hw::hz::hA::hB::hC::hD::hE::hF::hG::hH::hI::hJ::hL::hN::hR::hT::hU::hV::hW::hX::hY::hZ::h0::h2::h3::h4::h6::h7::h8::h9::ia::ib::ic::ie::ig::ih::ii::ij::ik::il::im::io::ip::iq::ir::it::iu::iv::iw::ix::iy::iz::iA::iB::iC::iD::iE::iF::iG::iH::iI::iJ::iK::iL::iM::iN::iO::iP::iQ::iR::iS::iT::iU::iV::iW::iX::iY::iZ::i3::i4::i5::i6::i7::i8::ja::jb::jc::jd::je::jf::jg::jh::ji::jj::jk::jl::jm::jn::jo::jp::jq::jr::js::jt::ju::jv::jw::jx::jy::jz::jA::jB::jC::jD::jE::jF::jG::jH::jI::jJ::jK::jL::jM::jN::jO::jP::jQ::jR::jS::jT::jU::jV::jW::jX::jY::jZ::j0::j1::j2::j3::j4::j5::j6::j7::j8::j9::ka::kb::kc::kd::ke::kf::kg::kh::ki::kj::kk::kl::km::kn::ko::kp::kq::kr::ks::kt::ku::kv::kw::kx::ky::kz::kA::kB::kC::kD::kE::kF::kG::kH::kI::kJ::kK::kL::kM::kN::kO::aM::aN::[]).toArray, []⟩ W') : Code.wp Try.prog sw Q ⟨(v0::mv::(.pointer (some ⟨b2, 0, none⟩))::v3::(.pointer (some ⟨b4, 0, none⟩))::(.pointer (some ⟨b5, 0, none⟩))::(.int .i64 0)::(.bool false)::(.int .i64 0)::(.pointer (some ⟨b9, 0, none⟩))::aO::(.pointer (some ⟨b11, 0, none⟩))::(.pointer (some ⟨b12, 0, none⟩))::(.int .i64 (s.eb (P : Int)))::(.pointer (some ⟨b14, 0, none⟩))::aP::aQ::aR::aS::aT::aU::aV::aW::aX::aa::ab::ac::ae::af::ag::ah::ai::aj::ak::al::am::an::ao::ap::aq::ar::av::aw::ax::ay::az::aA::aB::aC::aD::aE::aF::aG::aH::aI::aJ::aK::aL::aY::aZ::a0::a1::a2::a4::a5::a6::a7::a8::a9::ba::bb::bc::bd::be::bf::bg::bh::bi::bj::bk::bl::bm::bn::bo::bp::bq::br::bs::bt::bu::bv::bw::bx::bz::bA::bB::bC::bD::bE::bF::bG::bH::bI::bJ::bK::bL::bM::bN::bO::bP::bQ::bR::bS::bT::bU::bV::bW::bX::bY::bZ::b0::b1::b3::b6::b7::b8::ca::cb::cc::cd::ce::cg::ch::ci::cj::ck::cl::cm::cn::co::cq::cr::cs::ct::cu::cv::cw::cx::cy::cz::cA::cB::cC::cD::cE::cF::cG::cH::cI::cJ::cK::cL::cM::cN::cO::cP::cQ::cR::cS::cT::cU::cV::cW::cX::cY::cZ::c3::c4::c5::c6::c7::c8::c9::da::db::dc::dd::de::df::dg::dh::di::dj::dk::dl::dm::dn::dp::dq::dr::ds::dt::du::dv::dw::dx::dy::dz::dA::dB::dC::dD::dE::dF::dG::dH::dI::dJ::dK::dL::dM::dN::dO::dP::dQ::dR::dS::dT::dU::dV::dW::dX::dY::dZ::d0::d1::d2::d3::d4::d5::d6::d7::d8::d9::ea::ec::ed::ee::ef::eg::eh::ei::ej::ek::el::em::en::eo::ep::eq::es::et::eu::ev::ew::ey::ez::eA::eB::eC::eD::eE::eF::eG::eH::eI::eJ::eK::eL::eM::eN::eO::eP::eQ::eR::eS::eT::eU::eV::eW::eX::eY::eZ::e0::e1::e2::e3::e4::e5::e6::e7::e8::e9::fa::fb::fc::fd::fe::ff::fg::fh::fi::fj::fk::fl::fm::fn::fo::fp::fq::fr::fs::ft::fu::fv::fw::fx::fy::fz::fA::fB::fC::fD::fE::aM::aN::[]).toArray, []⟩ W := by
  have i0 : W.cell? ⟨b9, 0, none⟩ = some (.int .i64 2) := E.i9.facts.1.1
  subst hu
  have g0 : W.cell? ⟨b14, 0, none⟩ = some (.bool true) := by rw [← hg]; exact E.g14.cell 0
  have g2 : W.cell? ⟨b14, 2, none⟩ = some (.int .i64 g.md) := E.g14.cell 2
  have g3 : W.cell? ⟨b14, 3, none⟩ = some (.int .i64 g.r1) := E.g14.cell 3
  have g4 : W.cell? ⟨b14, 4, none⟩ = some (.int .i64 g.r2) := E.g14.cell 4
  have g5 : W.cell? ⟨b14, 5, none⟩ = some (.int .i64 g.r3) := E.g14.cell 5
  have g6 : W.cell? ⟨b14, 6, none⟩ = some (.int .i64 g.g) := E.g14.cell 6
  have q1 : W.cell? ⟨b12, 1, none⟩ = some (.int .i64 (s.pt P).off) := E.p12.facts.1.2.1
  have i2 : W.cell? ⟨b9, 2, none⟩ = some (.int .i64 n) := E.i9.facts.1.2.2
  have hm : (bits .and .i64 g.md 2 == 0) = false := by unfold Sg.has at hh; simpa using hh
  clear hh
  have HY : Hid (blk4 W b5 45 (.bool false) (.int .i64 0) (.int .i64 0) (.int .i64 0)) := E.z5
  have HZ : Hid (rsAt W b4 St.zero (.slice none 0 0)) := E.z4
  have HD := Lib.hid E.d
  replace E := Lib.hid E
  conv => arg 2; whnf
  go_wp2_with (first | (go_at_call 47; refine (r_MayWrite _ _ _ _ _ _).mono ?_; rintro e w1 ⟨rfl, hb1⟩; rw [hmr]; have g11 : w1.cell? ⟨b14, 1, none⟩ = some (.slice au len cp) := (show blk7 w1 b14 57 (.bool g.is) (.slice au len cp) (.int .i64 g.md) (.int .i64 g.r1) (.int .i64 g.r2) (.int .i64 g.r3) (.int .i64 g.g) from Off.keeps (.of_below (ex := fun _ => False) hb1) E.out.g14 id).cell 1; have HB := Lib.hid hb1; replace HY : Hid (blk4 w1 b5 45 (.bool false) (.int .i64 0) (.int .i64 0) (.int .i64 0)) := Off.keeps (.of_below (ex := fun _ => False) hb1) HY.out id; replace HZ : Hid (rsAt w1 b4 St.zero (.slice none 0 0)) := Off.keeps (.of_below (ex := fun _ => False) hb1) HZ.out id; clear hb1) | ((with_reducible refine wpList_store_rs (op := ⟨none, .store 39 (.tmp 4) (.tmp 133), _, _, _, _⟩) (N := b4) (s := St.zero) (stk := (.slice none 0 0)) (s' := St.zero) (stk' := (.slice none 0 0)) ?_ (.tmp 4) (.tmp 133) ?_ ?_ ?_ ?_ ?_ ?_); exact rfl; exact rfl; exact rfl; exact rfl; exact HZ.out; exact rfl; intro w9 S1 F1; have Y1 : Hid (blk4 w9 b5 45 (.bool false) (.int .i64 0) (.int .i64 0) (.int .i64 0)) := Off.keeps F1 HY.out (by have := HD.out; omega); have y0 : w9.cell? ⟨b5, 0, none⟩ = some (.bool false) := Y1.out.cell 0; have y1 : w9.cell? ⟨b5, 1, none⟩ = some (.int .i64 0) := Y1.out.cell 1; have y2 : w9.cell? ⟨b5, 2, none⟩ = some (.int .i64 0) := Y1.out.cell 2; have y3 : w9.cell? ⟨b5, 3, none⟩ = some (.int .i64 0) := Y1.out.cell 3; have yf : ∀ j, w9.frozen? ⟨b5, j, none⟩ = false := fun j => Y1.out.free j; replace S1 := Lib.hid S1; replace F1 := Lib.hid F1))
  exact (out4 S1.out F1.out Y1.out HD.out.2.1 false 0 0 0).pre HB.out
set_option maxHeartbeats 8000000 in
theorem sw18e {W : World} {b2 b4 b5 b9 b11 b12 b14 n' c P : Nat} {ad : Option Addr} {s t : St} {n : Int} {g : Sg} {u mv : Value} {v0 v3 aO aP aQ aR aS aT aU aV aW aX aa ab ac ae af ag ah ai aj ak al am an ao ap aq ar av aw ax ay az aA aB aC aD aE aF aG aH aI aJ aK aL aY aZ a0 a1 a2 a4 a5 a6 a7 a8 a9 ba bb bc bd be bf bg bh bi bj bk bl bm bn bo bp bq br bs bt bu bv bw bx bz bA bB bC bD bE bF bG bH bI bJ bK bL bM bN bO bP bQ bR bS bT bU bV bW bX bY bZ b0 b1 b3 b6 b7 b8 ca cb cc cd ce cg ch ci cj ck cl cm cn co cq cr cs ct cu cv cw cx cy cz cA cB cC cD cE cF cG cH cI cJ cK cL cM cN cO cP cQ cR cS cT cU cV cW cX cY cZ c3 c4 c5 c6 c7 c8 c9 da db dc dd de df dg dh di dj dk dl dm dn dp dq dr ds dt du dv dw dx dy dz dA dB dC dD dE dF dG dH dI dJ dK dL dM dN dO dP dQ dR dS dT dU dV dW dX dY dZ d0 d1 d2 d3 d4 d5 d6 d7 d8 d9 ea ec ed ee ef eg eh ei ej ek el em en eo ep eq es et eu ev ew ey ez eA eB eC eD eE eF eG eH eI eJ eK eL eM eN eO eP eQ eR eS eT eU eV eW eX eY eZ e0 e1 e2 e3 e4 e5 e6 e7 e8 e9 fa fb fc fd fe ff fg fh fi fj fk fl fm fn fo fp fq fr fs ft fu fv fw fx fy fz fA fB fC fD fE aM aN : Value} {Q : Exit → Act → World → Prop} (vs : List Value) (M : List Sg) (er : Int) (E : SE W b2 b4 b5 b9 b11 b12 b14 s t (.slice ad n' c) 18 n P g u) (hP : P < 4) (hM : Segs W 0 mv vs M) (h5 : M.length ≤ 1000) (hws : ∀ g ∈ M, g.ws.length ≤ 16) (her : ¬ er = 0) (hrd : rdR M s (P : Int) n = .error er) 
    (hQ : ∀ (fF fG fH fI fJ fK fL fM fN fO fP fQ fR fS fT fU fV fW fX fY fZ f0 f1 f2 f3 f4 f5 f6 f7 f8 f9 ga gb gc gd ge gf gg gh gi gj gk gl gm gn gp gq gr gs gt gu gv gw gx gy gz gA gB gC gD gE gF gG gH gI gJ gK gL gM gN gO gP gQ gR gS gT gU gV gW gX gY gZ g1 g7 g8 g9 ha hb hc hd hf hi hn hp hq hr hs ht hv hw hz hA hB hC hD hE hF hG hH hI hJ hL hN hR hT hU hV hW hX hY hZ h0 h2 h3 h4 h6 h7 h8 h9 ia ib ic ie ig ih ii ij ik il im io ip iq ir it iu iv iw ix iy iz iA iB iC iD iE iF iG iH iI iJ iK iL iM iN iO iP iQ iR iS iT iU iV iW iX iY iZ i3 i4 i5 i6 i7 i8 ja jb jc jd je jf jg jh ji jj jk jl jm jn jo jp jq jr js jt ju jv jw jx jy jz jA jB jC jD jE jF jG jH jI jJ jK jL jM jN jO jP jQ jR jS jT jU jV jW jX jY jZ j0 j1 j2 j3 j4 j5 j6 j7 j8 j9 ka kb kc kd ke kf kg kh ki kj kk kl km kn ko kp kq kr ks kt ku kv kw kx ky kz kA kB kC kD kE kF kG kH kI kJ kK kL kM kN kO : Value) (W' : World), OutP W W' b4 b5 St.zero (.slice none 0 0) false 0 0 0 → Q .ret ⟨(v0::mv::(.pointer (some ⟨b2, 0, none⟩))::v3::(.pointer (some ⟨b4, 0, none⟩))::(.pointer (some ⟨b5, 0, none⟩))::(.int .i64 0)::(.bool false)::(.int .i64 er)::(.pointer (some ⟨b9, 0, none⟩))::fF::(.pointer (some ⟨b11, 0, none⟩))::(.pointer (some ⟨b12, 0, none⟩))::(.int .i64 (s.eb (P : Int)))::(.pointer (some ⟨b14, 0, none⟩))::fG::fH::fI::fJ::fK::fL::fM::fN::fO::aa::ab::ac::ae::af::ag::ah::ai::aj::ak::al::am::an::ao::ap::aq::ar::av::aw::ax::ay::az::aA::aB::aC::aD::aE::aF::aG::aH::aI::aJ::aK::aL::fP::fQ::fR::fS::fT::fU::fV::fW::fX::fY::fZ::f0::f1::f2::f3::f4::f5::f6::f7::f8::f9::ga::gb::gc::gd::ge::gf::gg::gh::gi::gj::gk::gl::gm::gn::gp::gq::gr::gs::gt::gu::gv::gw::gx::gy::gz::gA::gB::gC::gD::gE::gF::gG::gH::gI::gJ::gK::gL::gM::gN::gO::gP::gQ::gR::gS::gT::gU::gV::gW::gX::gY::gZ::g1::g7::g8::g9::ha::hb::hc::hd::hf::hi::hn::hp::hq::hr::hs::ht::hv::hw::hz::hA::hB::hC::hD::hE::hF::hG::hH::hI::hJ::hL::hN::hR::hT::hU::hV::hW::hX::hY::hZ::h0::h2::h3::h4::h6::h7::h8::h9::ia::ib::ic::ie::ig::ih::ii::ij::ik::il::im::io::ip::iq::ir::it::iu::iv::iw::ix::iy::iz::iA::iB::iC::iD::iE::iF::iG::iH::iI::iJ::iK::iL::iM::iN::iO::iP::iQ::iR::iS::iT::iU::iV::iW::iX::iY::iZ::i3::i4::i5::i6::i7::i8::ja::jb::jc::jd::je::jf::jg::jh::ji::jj::jk::jl::jm::jn::jo::jp::jq::jr::js::jt::ju::jv::jw::jx::jy::jz::jA::jB::jC::jD::jE::jF::jG::jH::jI::jJ::jK::jL::jM::jN::jO::jP::jQ::jR::jS::jT::jU::jV::jW::jX::jY::jZ::j0::j1::j2::j3::j4::j5::j6::j7::j8::j9::ka::kb::kc::kd::ke::kf::kg::kh::ki::kj::kk::kl::km::kn::ko::kp::kq::kr::ks::kt::ku::kv::kw::kx::ky::kz::kA::kB::kC::kD::kE::kF::kG::kH::kI::kJ::kK::kL::kM::kN::kO::aM::aN::[]).toArray, []⟩ W') : Code.wp Try.prog sw Q ⟨(v0::mv::(.pointer (some ⟨b2, 0, none⟩))::v3::(.pointer (some ⟨b4, 0, none⟩))::(.pointer (some ⟨b5, 0, none⟩))::(.int .i64 0)::(.bool false)::(.int .i64 0)::(.pointer (some ⟨b9, 0, none⟩))::aO::(.pointer (some ⟨b11, 0, none⟩))::(.pointer (some ⟨b12, 0, none⟩))::(.int .i64 (s.eb (P : Int)))::(.pointer (some ⟨b14, 0, none⟩))::aP::aQ::aR::aS::aT::aU::aV::aW::aX::aa::ab::ac::ae::af::ag::ah::ai::aj::ak::al::am::an::ao::ap::aq::ar::av::aw::ax::ay::az::aA::aB::aC::aD::aE::aF::aG::aH::aI::aJ::aK::aL::aY::aZ::a0::a1::a2::a4::a5::a6::a7::a8::a9::ba::bb::bc::bd::be::bf::bg::bh::bi::bj::bk::bl::bm::bn::bo::bp::bq::br::bs::bt::bu::bv::bw::bx::bz::bA::bB::bC::bD::bE::bF::bG::bH::bI::bJ::bK::bL::bM::bN::bO::bP::bQ::bR::bS::bT::bU::bV::bW::bX::bY::bZ::b0::b1::b3::b6::b7::b8::ca::cb::cc::cd::ce::cg::ch::ci::cj::ck::cl::cm::cn::co::cq::cr::cs::ct::cu::cv::cw::cx::cy::cz::cA::cB::cC::cD::cE::cF::cG::cH::cI::cJ::cK::cL::cM::cN::cO::cP::cQ::cR::cS::cT::cU::cV::cW::cX::cY::cZ::c3::c4::c5::c6::c7::c8::c9::da::db::dc::dd::de::df::dg::dh::di::dj::dk::dl::dm::dn::dp::dq::dr::ds::dt::du::dv::dw::dx::dy::dz::dA::dB::dC::dD::dE::dF::dG::dH::dI::dJ::dK::dL::dM::dN::dO::dP::dQ::dR::dS::dT::dU::dV::dW::dX::dY::dZ::d0::d1::d2::d3::d4::d5::d6::d7::d8::d9::ea::ec::ed::ee::ef::eg::eh::ei::ej::ek::el::em::en::eo::ep::eq::es::et::eu::ev::ew::ey::ez::eA::eB::eC::eD::eE::eF::eG::eH::eI::eJ::eK::eL::eM::eN::eO::eP::eQ::eR::eS::eT::eU::eV::eW::eX::eY::eZ::e0::e1::e2::e3::e4::e5::e6::e7::e8::e9::fa::fb::fc::fd::fe::ff::fg::fh::fi::fj::fk::fl::fm::fn::fo::fp::fq::fr::fs::ft::fu::fv::fw::fx::fy::fz::fA::fB::fC::fD::fE::aM::aN::[]).toArray, []⟩ W := by
  have i0 : W.cell? ⟨b9, 0, none⟩ = some (.int .i64 18) := E.i9.facts.1.1
  replace hP := Lib.hid hP
  replace hM := Lib.hid hM
  replace h5 := Lib.hid h5
  replace hws := Lib.hid hws
  replace hrd := Lib.hid hrd
  have her2 : (er != 0) = true := by simpa using her
  have i1 : W.cell? ⟨b9, 1, none⟩ = some (.int .i64 (P : Int)) := E.i9.facts.1.2.1
  have i2 : W.cell? ⟨b9, 2, none⟩ = some (.int .i64 n) := E.i9.facts.1.2.2
  have HY : Hid (blk4 W b5 45 (.bool false) (.int .i64 0) (.int .i64 0) (.int .i64 0)) := E.z5
  have HZ : Hid (rsAt W b4 St.zero (.slice none 0 0)) := E.z4
  have HD := Lib.hid E.d
  replace E := Lib.hid E
  conv => arg 2; whnf
  go_wp2_with (first | ((with_reducible refine wpList_load_rs (op := ⟨some 231, .load 39 (.tmp 2), _, _, _, _⟩) (N := b2) (s := s) (stk := (.slice ad n' c)) ?_ (.tmp 2) ?_ ?_ ?_ ?_); exact rfl; exact rfl; exact rfl; exact rs_range E.out.s2) | (go_at_call 45; refine (c_rread W s ad n' c mv vs M _ n P hP.out hM.out h5.out hws.out).mono ?_; rintro e w1 ⟨he, hb1⟩; rw [hrd.out] at he; obtain rfl := he; dsimp only [rdV]; have HB := Lib.hid hb1; replace HY : Hid (blk4 w1 b5 45 (.bool false) (.int .i64 0) (.int .i64 0) (.int .i64 0)) := Off.keeps (.of_below (ex := fun _ => False) hb1) HY.out id; replace HZ : Hid (rsAt w1 b4 St.zero (.slice none 0 0)) := Off.keeps (.of_below (ex := fun _ => False) hb1) HZ.out id; clear hb1) | ((with_reducible refine wpList_store_rs (op := ⟨none, .store 39 (.tmp 4) (.tmp 239), _, _, _, _⟩) (N := b4) (s := St.zero) (stk := (.slice none 0 0)) (s' := St.zero) (stk' := (.slice none 0 0)) ?_ (.tmp 4) (.tmp 239) ?_ ?_ ?_ ?_ ?_ ?_); exact rfl; exact rfl; exact rfl; exact rfl; exact HZ.out; exact rfl; intro w9 S1 F1; have Y1 : Hid (blk4 w9 b5 45 (.bool false) (.int .i64 0) (.int .i64 0) (.int .i64 0)) := Off.keeps F1 HY.out (by have := HD.out; omega); have y0 : w9.cell? ⟨b5, 0, none⟩ = some (.bool false) := Y1.out.cell 0; have y1 : w9.cell? ⟨b5, 1, none⟩ = some (.int .i64 0) := Y1.out.cell 1; have y2 : w9.cell? ⟨b5, 2, none⟩ = some (.int .i64 0) := Y1.out.cell 2; have y3 : w9.cell? ⟨b5, 3, none⟩ = some (.int .i64 0) := Y1.out.cell 3; have yf : ∀ j, w9.frozen? ⟨b5, j, none⟩ = false := fun j => Y1.out.free j; replace S1 := Lib.hid S1; replace F1 := Lib.hid F1))
  exact (out4 S1.out F1.out Y1.out HD.out.2.1 false 0 0 0).pre HB.out
set_option maxHeartbeats 8000000 in
theorem sw22 {W : World} {b2 b4 b5 b9 b11 b12 b14 n' c P : Nat} {ad : Option Addr} {s t : St} {n : Int} {g : Sg} {u mv : Value} {v0 v3 aO aP aQ aR aS aT aU aV aW aX aa ab ac ae af ag ah ai aj ak al am an ao ap aq ar av aw ax ay az aA aB aC aD aE aF aG aH aI aJ aK aL aY aZ a0 a1 a2 a4 a5 a6 a7 a8 a9 ba bb bc bd be bf bg bh bi bj bk bl bm bn bo bp bq br bs bt bu bv bw bx bz bA bB bC bD bE bF bG bH bI bJ bK bL bM bN bO bP bQ bR bS bT bU bV bW bX bY bZ b0 b1 b3 b6 b7 b8 ca cb cc cd ce cg ch ci cj ck cl cm cn co cq cr cs ct cu cv cw cx cy cz cA cB cC cD cE cF cG cH cI cJ cK cL cM cN cO cP cQ cR cS cT cU cV cW cX cY cZ c3 c4 c5 c6 c7 c8 c9 da db dc dd de df dg dh di dj dk dl dm dn dp dq dr ds dt du dv dw dx dy dz dA dB dC dD dE dF dG dH dI dJ dK dL dM dN dO dP dQ dR dS dT dU dV dW dX dY dZ d0 d1 d2 d3 d4 d5 d6 d7 d8 d9 ea ec ed ee ef eg eh ei ej ek el em en eo ep eq es et eu ev ew ey ez eA eB eC eD eE eF eG eH eI eJ eK eL eM eN eO eP eQ eR eS eT eU eV eW eX eY eZ e0 e1 e2 e3 e4 e5 e6 e7 e8 e9 fa fb fc fd fe ff fg fh fi fj fk fl fm fn fo fp fq fr fs ft fu fv fw fx fy fz fA fB fC fD fE aM aN : Value} {Q : Exit → Act → World → Prop} (E : SE W b2 b4 b5 b9 b11 b12 b14 s t (.slice ad n' c) 22 n P g u) 
    (hQ : ∀ (fF fG fH fI fJ fK fL fM fN fO fP fQ fR fS fT fU fV fW fX fY fZ f0 f1 f2 f3 f4 f5 f6 f7 f8 f9 ga gb gc gd ge gf gg gh gi gj gk gl gm gn gp gq gr gs gt gu gv gw gx gy gz gA gB gC gD gE gF gG gH gI gJ gK gL gM gN gO gP gQ gR gS gT gU gV gW gX gY gZ g1 g7 g8 g9 ha hb hc hd hf hi hn hp hq hr hs ht hv hw hz hA hB hC hD hE hF hG hH hI hJ hL hN hR hT hU hV hW hX hY hZ h0 h2 h3 h4 h6 h7 h8 h9 ia ib ic ie ig ih ii ij ik il im io ip iq ir it iu iv iw ix iy iz iA iB iC iD iE iF iG iH iI iJ iK iL iM iN iO iP iQ iR iS iT iU iV iW iX iY iZ i3 i4 i5 i6 i7 i8 ja jb jc jd je jf jg jh ji jj jk jl jm jn jo jp jq jr js jt ju jv jw jx jy jz jA jB jC jD jE jF jG jH jI jJ jK jL jM jN jO jP jQ jR jS jT jU jV jW jX jY jZ j0 j1 j2 j3 j4 j5 j6 j7 j8 j9 ka kb kc kd ke kf kg kh ki kj kk kl km kn ko kp kq kr ks kt ku kv kw kx ky kz kA kB kC kD kE kF kG kH kI kJ kK kL kM kN kO kP kQ : Value) (W' : World), OutP W W' b4 b5 t (.slice ad n' c) false 0 0 0 → Q .ret ⟨(v0::mv::(.pointer (some ⟨b2, 0, none⟩))::v3::(.pointer (some ⟨b4, 0, none⟩))::(.pointer (some ⟨b5, 0, none⟩))::(.int .i64 s.a)::(.bool true)::(.int .i64 0)::(.pointer (some ⟨b9, 0, none⟩))::fF::(.pointer (some ⟨b11, 0, none⟩))::(.pointer (some ⟨b12, 0, none⟩))::(.int .i64 (s.eb (P : Int)))::(.pointer (some ⟨b14, 0, none⟩))::fG::fH::fI::fJ::fK::fL::fM::fN::fO::aa::ab::ac::ae::af::ag::ah::ai::aj::ak::al::am::an::ao::ap::aq::ar::av::aw::ax::ay::az::aA::aB::aC::aD::aE::aF::aG::aH::aI::aJ::aK::aL::fP::fQ::fR::fS::fT::fU::fV::fW::fX::fY::fZ::f0::f1::f2::f3::f4::f5::f6::f7::f8::f9::ga::gb::gc::gd::ge::gf::gg::gh::gi::gj::gk::gl::gm::gn::gp::gq::gr::gs::gt::gu::gv::gw::gx::gy::gz::gA::gB::gC::gD::gE::gF::gG::gH::gI::gJ::gK::gL::gM::gN::gO::gP::gQ::gR::gS::gT::gU::gV::gW::gX::gY::gZ::g1::g7::g8::g9::ha::hb::hc::hd::hf::hi::hn::hp::hq::hr::hs::ht::hv::hw::hz::hA::hB::hC::hD::hE::hF::hG::hH::hI::hJ::hL::hN::hR::hT::hU::hV::hW::hX::hY::hZ::h0::h2::h3::h4::h6::h7::h8::h9::ia::ib::ic::ie::ig::ih::ii::ij::ik::il::im::io::ip::iq::ir::it::iu::iv::iw::ix::iy::iz::iA::iB::iC::iD::iE::iF::iG::iH::iI::iJ::iK::iL::iM::iN::iO::iP::iQ::iR::iS::iT::iU::iV::iW::iX::iY::iZ::i3::i4::i5::i6::i7::i8::ja::jb::jc::jd::je::jf::jg::jh::ji::jj::jk::jl::jm::jn::jo::jp::jq::jr::js::jt::ju::jv::jw::jx::jy::jz::jA::jB::jC::jD::jE::jF::jG::jH::jI::jJ::jK::jL::jM::jN::jO::jP::jQ::jR::jS::jT::jU::jV::jW::jX::jY::jZ::j0::j1::j2::j3::j4::j5::j6::j7::j8::j9::ka::kb::kc::kd::ke::kf::kg::kh::ki::kj::kk::kl::km::kn::ko::kp::kq::kr::ks::kt::ku::kv::kw::kx::ky::kz::kA::kB::kC::kD::kE::kF::kG::kH::kI::kJ::kK::kL::kM::kN::kO::kP::kQ::[]).toArray, []⟩ W') : Code.wp Try.prog sw Q ⟨(v0::mv::(.pointer (some ⟨b2, 0, none⟩))::v3::(.pointer (some ⟨b4, 0, none⟩))::(.pointer (some ⟨b5, 0, none⟩))::(.int .i64 0)::(.bool false)::(.int .i64 0)::(.pointer (some ⟨b9, 0, none⟩))::aO::(.pointer (some ⟨b11, 0, none⟩))::(.pointer (some ⟨b12, 0, none⟩))::(.int .i64 (s.eb (P : Int)))::(.pointer (some ⟨b14, 0, none⟩))::aP::aQ::aR::aS::aT::aU::aV::aW::aX::aa::ab::ac::ae::af::ag::ah::ai::aj::ak::al::am::an::ao::ap::aq::ar::av::aw::ax::ay::az::aA::aB::aC::aD::aE::aF::aG::aH::aI::aJ::aK::aL::aY::aZ::a0::a1::a2::a4::a5::a6::a7::a8::a9::ba::bb::bc::bd::be::bf::bg::bh::bi::bj::bk::bl::bm::bn::bo::bp::bq::br::bs::bt::bu::bv::bw::bx::bz::bA::bB::bC::bD::bE::bF::bG::bH::bI::bJ::bK::bL::bM::bN::bO::bP::bQ::bR::bS::bT::bU::bV::bW::bX::bY::bZ::b0::b1::b3::b6::b7::b8::ca::cb::cc::cd::ce::cg::ch::ci::cj::ck::cl::cm::cn::co::cq::cr::cs::ct::cu::cv::cw::cx::cy::cz::cA::cB::cC::cD::cE::cF::cG::cH::cI::cJ::cK::cL::cM::cN::cO::cP::cQ::cR::cS::cT::cU::cV::cW::cX::cY::cZ::c3::c4::c5::c6::c7::c8::c9::da::db::dc::dd::de::df::dg::dh::di::dj::dk::dl::dm::dn::dp::dq::dr::ds::dt::du::dv::dw::dx::dy::dz::dA::dB::dC::dD::dE::dF::dG::dH::dI::dJ::dK::dL::dM::dN::dO::dP::dQ::dR::dS::dT::dU::dV::dW::dX::dY::dZ::d0::d1::d2::d3::d4::d5::d6::d7::d8::d9::ea::ec::ed::ee::ef::eg::eh::ei::ej::ek::el::em::en::eo::ep::eq::es::et::eu::ev::ew::ey::ez::eA::eB::eC::eD::eE::eF::eG::eH::eI::eJ::eK::eL::eM::eN::eO::eP::eQ::eR::eS::eT::eU::eV::eW::eX::eY::eZ::e0::e1::e2::e3::e4::e5::e6::e7::e8::e9::fa::fb::fc::fd::fe::ff::fg::fh::fi::fj::fk::fl::fm::fn::fo::fp::fq::fr::fs::ft::fu::fv::fw::fx::fy::fz::fA::fB::fC::fD::fE::aM::aN::[]).toArray, []⟩ W := by
  have i0 : W.cell? ⟨b9, 0, none⟩ = some (.int .i64 22) := E.i9.facts.1.1
  have a3 : W.cell? ⟨b2, 3, none⟩ = some (.int .i64 s.a) := E.s2.cell 3
  have HY : Hid (blk4 W b5 45 (.bool false) (.int .i64 0) (.int .i64 0) (.int .i64 0)) := E.z5
  have HZ : Hid (rsAt W b4 St.zero (.slice none 0 0)) := E.z4
  have HD := Lib.hid E.d
  replace E := Lib.hid E
  conv => arg 2; whnf
  go_upto_region 65 with fail
  refine wp_region_noPanic ?_
  refine wp_region_held_drew (S := fun w' => Off (fun j => j = b4 ∨ j = b5) W.drew w') (by kernel_rfl) (Off.refl _ _) (fun hHeld => ?_)
  have HT : Hid (rsAt W.drew b11 t (.slice ad n' c)) := E.out.t11
  have LD : Hid (Below W.heap.size W W.drew) := below_drew (Below.refl _ _)
  replace HY : Hid (blk4 W.drew b5 45 (.bool false) (.int .i64 0) (.int .i64 0) (.int .i64 0)) := HY
  replace HZ : Hid (rsAt W.drew b4 St.zero (.slice none 0 0)) := HZ
  have k3 : ∀ w', Off (fun j => j = b4 ∨ j = b5) W.drew w' → w'.cell? ⟨b2, 3, none⟩ = some (.int .i64 s.a) := fun w' h => (show rsAt w' b2 s (.slice ad n' c) from Off.keeps h (show rsAt W.drew b2 s (.slice ad n' c) from E.out.s2) (fun h => by have := HD.out; omega)).cell 3
  clear a3
  generalize W.drew = D at HT LD HY HZ k3 hHeld ⊢
  try simp only [Act.put, sA, sB, sC]
  refine wpAnyH_take (i := 0) (oi := ⟨_, _, _, _, _, _⟩) (v := .agg #[.int .i64 t.seg, .int .i64 t.off, .int .i64 t.ring, .int .i64 t.a, .int .i64 t.p0.seg, .int .i64 t.p0.off, .int .i64 t.p0.ring, .int .i64 t.p1.seg, .int .i64 t.p1.off, .int .i64 t.p1.ring, .int .i64 t.p2.seg, .int .i64 t.p2.off, .int .i64 t.p2.ring, .int .i64 t.p3.seg, .int .i64 t.p3.off, .int .i64 t.p3.ring, .slice ad n' c, .bool t.hal]) rfl (by kernel_rfl) (by kernel_rfl) (by kernel_rfl) (fun _ _ _ h => h) (yieldsIf_load_mid (by rfl) 39 (.tmp 11) rfl (b11) 0 rfl (stC t (.slice ad n' c)).toList _ (fun w hS => rs_range (show rsAt w b11 t (.slice ad n' c) from Off.keeps (ex := fun j => j = b4 ∨ j = b5) hS HT.out (fun h => by have := HD.out; omega))) A.rstateU A.rstateR A.rstateI) (by assumption) ?_
  try simp only [Act.put, sA, sB, sC]
  refine tkA 1 ?_
  try simp only [Act.put, sA, sB, sC]
  refine tkA 2 ?_
  try simp only [Act.put, sA, sB, sC]
  refine tkA 3 ?_
  try simp only [Act.put, sA, sB, sC]
  clear k3
  refine rdA 4 (fun K hK => ?_)
  (try rw [if_pos (by rfl)])
  refine wp_store_rs (.tmp 4) (.tmp 330) rfl (N := b4) (s := St.zero) (stk := (.slice none 0 0)) (s' := t) (stk' := (.slice ad n' c)) rfl rfl HZ.out rfl ?_
  intro w9 S1 F1
  have Y1 : Hid (blk4 w9 b5 45 (.bool false) (.int .i64 0) (.int .i64 0) (.int .i64 0)) := Off.keeps F1 HY.out (by have := HD.out; omega)
  have y0 : w9.cell? ⟨b5, 0, none⟩ = some (.bool false) := Y1.out.cell 0
  have y1 : w9.cell? ⟨b5, 1, none⟩ = some (.int .i64 0) := Y1.out.cell 1
  have y2 : w9.cell? ⟨b5, 2, none⟩ = some (.int .i64 0) := Y1.out.cell 2
  have y3 : w9.cell? ⟨b5, 3, none⟩ = some (.int .i64 0) := Y1.out.cell 3
  have yf : ∀ j, w9.frozen? ⟨b5, j, none⟩ = false := fun j => Y1.out.free j
  replace S1 := Lib.hid S1
  replace F1 := Lib.hid F1
  have F9 : Hid (Off (fun j => j = b4 ∨ j = b5) D w9) := F1.out.mono (fun _ _ h => .inl h)
  refine hK.out _ _ ?_ (fun hHeld => ?_)
  · exact F9.out
  clear hK K
  try simp only [Act.put]
  refine rdA 5 (fun K hK => ?_)
  go_simp
  refine hK.out _ _ ?_ (fun hHeld => ?_)
  · exact ((((F9.out.setCell (.inl (.inr rfl)) _).setCell (.inl (.inr rfl)) _).setCell (.inl (.inr rfl)) _).setCell (.inl (.inr rfl)) _)
  clear hK K
  try simp only [Act.put, sA, sB, sC]
  refine tkA 6 ?_
  try simp only [Act.put, sA, sB, sC]
  refine tkA 7 ?_
  try simp only [Act.put, sA, sB, sC]
  refine tkA 8 ?_
  try simp only [Act.put, sA, sB, sC]
  refine wpAnyH_done (by kernel_rfl) ?_ _
  refine NoPanic.normal ?_
  go_wp2_with fail
  exact (out4 S1.out F1.out Y1.out HD.out.2.1 false 0 0 0).pre LD.out
end Go.Proofs.Ytiakonmamkfopaa
namespace Go.Proofs.Ytiakonmamkfopaa
open Go.RowKit Go.ChangeShapes
set_option linter.unusedVariables false
set_option maxRecDepth 1000000
theorem rs_setp {w : World} {N P : Nat} {t : St} {stk : Value} (h : rsAt w N t stk) (hP : P < 4) (q : Pt) : rsAt (((w.setCell ⟨N, 4 + P * 3, none⟩ (.int .i64 q.seg)).setCell ⟨N, 4 + P * 3 + 1, none⟩ (.int .i64 q.off)).setCell ⟨N, 4 + P * 3 + 2, none⟩ (.int .i64 q.ring)) N (t.setP P q) stk := by
  rcases (show P = 0 ∨ P = 1 ∨ P = 2 ∨ P = 3 by omega) with rfl | rfl | rfl | rfl <;>
  · unfold rsAt stC at h ⊢
    simp [World.setCell, Array.getElem?_modify, h, St.setP]
theorem rs_pring {w : World} {N P : Nat} {t : St} {stk : Value} {q : Pt} (h : rsAt w N (t.setP P q) stk) (hP : P < 4) (x : Int) : rsAt (w.setCell ⟨N, 4 + P * 3 + 2, none⟩ (.int .i64 x)) N (t.setP P ⟨q.seg, q.off, x⟩) stk := by
  rcases (show P = 0 ∨ P = 1 ∨ P = 2 ∨ P = 3 by omega) with rfl | rfl | rfl | rfl <;>
  · unfold rsAt stC at h ⊢
    simp [World.setCell, Array.getElem?_modify, h, St.setP]
theorem st_pts (s : St) (stk : Value) (j : Nat) (hj : j < 4) : (∃ a, (stC s stk)[4 + j * 3]? = some a) ∧ (∃ a, (stC s stk)[4 + j * 3 + 1]? = some a) ∧ (∃ a, (stC s stk)[4 + j * 3 + 2]? = some a) := ⟨⟨_, (st_pt s stk j hj).1⟩, ⟨_, (st_pt s stk j hj).2.1⟩, ⟨_, (st_pt s stk j hj).2.2⟩⟩
theorem setP_ring2 (t : St) (P : Nat) (q : Pt) (hP : P < 4) : ((t.setP P q).pt P).ring = q.ring := by
  rcases (show P = 0 ∨ P = 1 ∨ P = 2 ∨ P = 3 by omega) with rfl | rfl | rfl | rfl <;> rfl
set_option maxHeartbeats 8000000 in
theorem sw2 {W : World} {b2 b4 b5 b9 b11 b12 b14 n' c P : Nat} {ad : Option Addr} {s t : St} {n : Int} {g : Sg} {u mv : Value} {v0 v3 aO aP aQ aR aS aT aU aV aW aX aa ab ac ae af ag ah ai aj ak al am an ao ap aq ar av aw ax ay az aA aB aC aD aE aF aG aH aI aJ aK aL aY aZ a0 a1 a2 a4 a5 a6 a7 a8 a9 ba bb bc bd be bf bg bh bi bj bk bl bm bn bo bp bq br bs bt bu bv bw bx bz bA bB bC bD bE bF bG bH bI bJ bK bL bM bN bO bP bQ bR bS bT bU bV bW bX bY bZ b0 b1 b3 b6 b7 b8 ca cb cc cd ce cg ch ci cj ck cl cm cn co cq cr cs ct cu cv cw cx cy cz cA cB cC cD cE cF cG cH cI cJ cK cL cM cN cO cP cQ cR cS cT cU cV cW cX cY cZ c3 c4 c5 c6 c7 c8 c9 da db dc dd de df dg dh di dj dk dl dm dn dp dq dr ds dt du dv dw dx dy dz dA dB dC dD dE dF dG dH dI dJ dK dL dM dN dO dP dQ dR dS dT dU dV dW dX dY dZ d0 d1 d2 d3 d4 d5 d6 d7 d8 d9 ea ec ed ee ef eg eh ei ej ek el em en eo ep eq es et eu ev ew ey ez eA eB eC eD eE eF eG eH eI eJ eK eL eM eN eO eP eQ eR eS eT eU eV eW eX eY eZ e0 e1 e2 e3 e4 e5 e6 e7 e8 e9 fa fb fc fd fe ff fg fh fi fj fk fl fm fn fo fp fq fr fs ft fu fv fw fx fy fz fA fB fC fD fE aM aN : Value} {Q : Exit → Act → World → Prop} (len cp O : Nat) (au : Option Addr) (hu : u = .slice au len cp) (E : SE W b2 b4 b5 b9 b11 b12 b14 s t (.slice ad n' c) 2 n P g u) (hg : g.is = true) (hh : g.has 2 = true) (hmr : mayRead g.r1 (s.eb (P : Int)) = true) (hO : wrap64 ((s.pt P).off + n) = (O : Int)) (hl : O < len)
    (hQ : ∀ (fF fG fH fI fJ fK fL fM fN fO fP fQ fR fS fT fU fV fW fX fY fZ f0 f1 f2 f3 f4 f5 f6 f7 f8 f9 ga gb gc gd ge gf gg gh gi gj gk gl gm gn gp gq gr gs gt gu gv gw gx gy gz gA gB gC gD gE gF gG gH gI gJ gK gL gM gN gO gP gQ gR gS gT gU gV gW gX gY gZ g1 g7 g8 g9 ha hb hc hd hf hi hn hp hq hr hs ht hv hw hz hA hB hC hD hE hF hG hH hI hJ hL hN hR hT hU hV hW hX hY hZ h0 h2 h3 h4 h6 h7 h8 h9 ia ib ic ie ig ih ii ij ik il im io ip iq ir it iu iv iw ix iy iz iA iB iC iD iE iF iG iH iI iJ iK iL iM iN iO iP iQ iR iS iT iU iV iW iX iY iZ i3 i4 i5 i6 i7 i8 ja jb jc jd je jf jg jh ji jj jk jl jm jn jo jp jq jr js jt ju jv jw jx jy jz jA jB jC jD jE jF jG jH jI jJ jK jL jM jN jO jP jQ jR jS jT jU jV jW jX jY jZ j0 j1 j2 j3 j4 j5 j6 j7 j8 j9 ka kb kc kd ke kf kg kh ki kj kk kl km kn ko kp kq kr ks kt ku kv kw kx ky kz kA kB kC kD kE kF kG kH kI kJ kK kL kM kN kO : Value) (W' : World), OutP W W' b4 b5 t (.slice ad n' c) true (s.pt P).seg (O : Int) s.a → Q .ret ⟨(v0::mv::(.pointer (some ⟨b2, 0, none⟩))::v3::(.pointer (some ⟨b4, 0, none⟩))::(.pointer (some ⟨b5, 0, none⟩))::(.int .i64 0)::(.bool false)::(.int .i64 0)::(.pointer (some ⟨b9, 0, none⟩))::fF::(.pointer (some ⟨b11, 0, none⟩))::(.pointer (some ⟨b12, 0, none⟩))::(.int .i64 (s.eb (P : Int)))::(.pointer (some ⟨b14, 0, none⟩))::fG::fH::fI::fJ::fK::fL::fM::fN::fO::aa::ab::ac::ae::af::ag::ah::ai::aj::ak::al::am::an::ao::ap::aq::ar::av::aw::ax::ay::az::aA::aB::aC::aD::aE::aF::aG::aH::aI::aJ::aK::aL::fP::fQ::fR::fS::fT::fU::fV::fW::fX::fY::fZ::f0::f1::f2::f3::f4::f5::f6::f7::f8::f9::ga::gb::gc::gd::ge::gf::gg::gh::gi::gj::gk::gl::gm::gn::gp::gq::gr::gs::gt::gu::gv::gw::gx::gy::gz::gA::gB::gC::gD::gE::gF::gG::gH::gI::gJ::gK::gL::gM::gN::gO::gP::gQ::gR::gS::gT::gU::gV::gW::gX::gY::gZ::g1::g7::g8::g9::ha::hb::hc::hd::hf::hi::hn::hp::hq::hr::hs::ht::hv::hw::hz::hA::hB::hC::hD::hE::hF::hG::hH::hI::hJ::hL::hN::hR::hT::hU::hV::hW::hX::hY::hZ::h0::h2::h3::h4::h6::h7::h8::h9::ia::ib::ic::ie::ig::ih::ii::ij::ik::il::im::io::ip::iq::ir::it::iu::iv::iw::ix::iy::iz::iA::iB::iC::iD::iE::iF::iG::iH::iI::iJ::iK::iL::iM::iN::iO::iP::iQ::iR::iS::iT::iU::iV::iW::iX::iY::iZ::i3::i4::i5::i6::i7::i8::ja::jb::jc::jd::je::jf::jg::jh::ji::jj::jk::jl::jm::jn::jo::jp::jq::jr::js::jt::ju::jv::jw::jx::jy::jz::jA::jB::jC::jD::jE::jF::jG::jH::jI::jJ::jK::jL::jM::jN::jO::jP::jQ::jR::jS::jT::jU::jV::jW::jX::jY::jZ::j0::j1::j2::j3::j4::j5::j6::j7::j8::j9::ka::kb::kc::kd::ke::kf::kg::kh::ki::kj::kk::kl::km::kn::ko::kp::kq::kr::ks::kt::ku::kv::kw::kx::ky::kz::kA::kB::kC::kD::kE::kF::kG::kH::kI::kJ::kK::kL::kM::kN::kO::aM::aN::[]).toArray, []⟩ W') : Code.wp Try.prog sw Q ⟨(v0::mv::(.pointer (some ⟨b2, 0, none⟩))::v3::(.pointer (some ⟨b4, 0, none⟩))::(.pointer (some ⟨b5, 0, none⟩))::(.int .i64 0)::(.bool false)::(.int .i64 0)::(.pointer (some ⟨b9, 0, none⟩))::aO::(.pointer (some ⟨b11, 0, none⟩))::(.pointer (some ⟨b12, 0, none⟩))::(.int .i64 (s.eb (P : Int)))::(.pointer (some ⟨b14, 0, none⟩))::aP::aQ::aR::aS::aT::aU::aV::aW::aX::aa::ab::ac::ae::af::ag::ah::ai::aj::ak::al::am::an::ao::ap::aq::ar::av::aw::ax::ay::az::aA::aB::aC::aD::aE::aF::aG::aH::aI::aJ::aK::aL::aY::aZ::a0::a1::a2::a4::a5::a6::a7::a8::a9::ba::bb::bc::bd::be::bf::bg::bh::bi::bj::bk::bl::bm::bn::bo::bp::bq::br::bs::bt::bu::bv::bw::bx::bz::bA::bB::bC::bD::bE::bF::bG::bH::bI::bJ::bK::bL::bM::bN::bO::bP::bQ::bR::bS::bT::bU::bV::bW::bX::bY::bZ::b0::b1::b3::b6::b7::b8::ca::cb::cc::cd::ce::cg::ch::ci::cj::ck::cl::cm::cn::co::cq::cr::cs::ct::cu::cv::cw::cx::cy::cz::cA::cB::cC::cD::cE::cF::cG::cH::cI::cJ::cK::cL::cM::cN::cO::cP::cQ::cR::cS::cT::cU::cV::cW::cX::cY::cZ::c3::c4::c5::c6::c7::c8::c9::da::db::dc::dd::de::df::dg::dh::di::dj::dk::dl::dm::dn::dp::dq::dr::ds::dt::du::dv::dw::dx::dy::dz::dA::dB::dC::dD::dE::dF::dG::dH::dI::dJ::dK::dL::dM::dN::dO::dP::dQ::dR::dS::dT::dU::dV::dW::dX::dY::dZ::d0::d1::d2::d3::d4::d5::d6::d7::d8::d9::ea::ec::ed::ee::ef::eg::eh::ei::ej::ek::el::em::en::eo::ep::eq::es::et::eu::ev::ew::ey::ez::eA::eB::eC::eD::eE::eF::eG::eH::eI::eJ::eK::eL::eM::eN::eO::eP::eQ::eR::eS::eT::eU::eV::eW::eX::eY::eZ::e0::e1::e2::e3::e4::e5::e6::e7::e8::e9::fa::fb::fc::fd::fe::ff::fg::fh::fi::fj::fk::fl::fm::fn::fo::fp::fq::fr::fs::ft::fu::fv::fw::fx::fy::fz::fA::fB::fC::fD::fE::aM::aN::[]).toArray, []⟩ W := by
  have i0 : W.cell? ⟨b9, 0, none⟩ = some (.int .i64 2) := E.i9.facts.1.1
  subst hu
  have g0 : W.cell? ⟨b14, 0, none⟩ = some (.bool true) := by rw [← hg]; exact E.g14.cell 0
  have g2 : W.cell? ⟨b14, 2, none⟩ = some (.int .i64 g.md) := E.g14.cell 2
  have g3 : W.cell? ⟨b14, 3, none⟩ = some (.int .i64 g.r1) := E.g14.cell 3
  have g4 : W.cell? ⟨b14, 4, none⟩ = some (.int .i64 g.r2) := E.g14.cell 4
  have g5 : W.cell? ⟨b14, 5, none⟩ = some (.int .i64 g.r3) := E.g14.cell 5
  have g6 : W.cell? ⟨b14, 6, none⟩ = some (.int .i64 g.g) := E.g14.cell 6
  have q1 : W.cell? ⟨b12, 1, none⟩ = some (.int .i64 (s.pt P).off) := E.p12.facts.1.2.1
  have i2 : W.cell? ⟨b9, 2, none⟩ = some (.int .i64 n) := E.i9.facts.1.2.2
  have hm : (bits .and .i64 g.md 2 == 0) = false := by unfold Sg.has at hh; simpa using hh
  clear hh
  have o0 : ¬ (O : Int) < 0 := by omega
  have o1 : ¬ (len : Int) ≤ (O : Int) := by omega
  have HY : Hid (blk4 W b5 45 (.bool false) (.int .i64 0) (.int .i64 0) (.int .i64 0)) := E.z5
  have HZ : Hid (rsAt W b4 St.zero (.slice none 0 0)) := E.z4
  have HD := Lib.hid E.d
  replace E := Lib.hid E
  conv => arg 2; whnf
  go_upto_region 29 with (first | (go_at_call 47; refine (r_MayWrite _ _ _ _ _ _).mono ?_; rintro e w1 ⟨rfl, hb1⟩; rw [hmr]; have g11 : w1.cell? ⟨b14, 1, none⟩ = some (.slice au len cp) := (show blk7 w1 b14 57 (.bool g.is) (.slice au len cp) (.int .i64 g.md) (.int .i64 g.r1) (.int .i64 g.r2) (.int .i64 g.r3) (.int .i64 g.g) from Off.keeps (.of_below (ex := fun _ => False) hb1) E.out.g14 id).cell 1; have HB := Lib.hid hb1; replace HY : Hid (blk4 w1 b5 45 (.bool false) (.int .i64 0) (.int .i64 0) (.int .i64 0)) := Off.keeps (.of_below (ex := fun _ => False) hb1) HY.out id; replace HZ : Hid (rsAt w1 b4 St.zero (.slice none 0 0)) := Off.keeps (.of_below (ex := fun _ => False) hb1) HZ.out id; have HT : Hid (rsAt w1 b11 t (.slice ad n' c)) := Off.keeps (.of_below (ex := fun _ => False) hb1) E.out.t11 id; have HS : Hid (rsAt w1 b2 s (.slice ad n' c)) := Off.keeps (.of_below (ex := fun _ => False) hb1) E.out.s2 id; have HP : Hid (blk3 w1 b12 24 (.int .i64 (s.pt P).seg) (.int .i64 (s.pt P).off) (.int .i64 (s.pt P).ring)) := Off.keeps (.of_below (ex := fun _ => False) hb1) E.out.p12 id; clear hb1))
  refine wp_region_noPanic ?_
  refine wp_region_held_drew (S := fun w' => Off (fun j => j = b4 ∨ j = b5) w1.drew w') (by kernel_rfl) (Off.refl _ _) (fun hHeld => ?_)
  have LD : Hid (Below W.heap.size W w1.drew) := below_drew HB.out
  replace HT : Hid (rsAt w1.drew b11 t (.slice ad n' c)) := HT
  replace HY : Hid (blk4 w1.drew b5 45 (.bool false) (.int .i64 0) (.int .i64 0) (.int .i64 0)) := HY
  replace HZ : Hid (rsAt w1.drew b4 St.zero (.slice none 0 0)) := HZ
  have k3 : ∀ w', Off (fun j => j = b4 ∨ j = b5) w1.drew w' → w'.cell? ⟨b2, 3, none⟩ = some (.int .i64 s.a) := fun w' h => (show rsAt w' b2 s (.slice ad n' c) from Off.keeps h (show rsAt w1.drew b2 s (.slice ad n' c) from HS.out) (fun h => by have := HD.out; omega)).cell 3
  have k0 : ∀ w', Off (fun j => j = b4 ∨ j = b5) w1.drew w' → w'.cell? ⟨b12, 0, none⟩ = some (.int .i64 (s.pt P).seg) := fun w' h => (show blk3 w' b12 24 (.int .i64 (s.pt P).seg) (.int .i64 (s.pt P).off) (.int .i64 (s.pt P).ring) from Off.keeps h (show blk3 w1.drew b12 24 (.int .i64 (s.pt P).seg) (.int .i64 (s.pt P).off) (.int .i64 (s.pt P).ring) from HP.out) (fun h => by have := HD.out; omega)).facts.1.1
  clear g11 HS HP HB
  generalize w1.drew = D at HT LD HY HZ k3 k0 hHeld ⊢
  try simp only [Act.put, sA, sB, sC]
  refine wpAnyH_take (i := 0) (oi := ⟨_, _, _, _, _, _⟩) (v := .agg #[.int .i64 t.seg, .int .i64 t.off, .int .i64 t.ring, .int .i64 t.a, .int .i64 t.p0.seg, .int .i64 t.p0.off, .int .i64 t.p0.ring, .int .i64 t.p1.seg, .int .i64 t.p1.off, .int .i64 t.p1.ring, .int .i64 t.p2.seg, .int .i64 t.p2.off, .int .i64 t.p2.ring, .int .i64 t.p3.seg, .int .i64 t.p3.off, .int .i64 t.p3.ring, .slice ad n' c, .bool t.hal]) rfl (by kernel_rfl) (by kernel_rfl) (by kernel_rfl) (fun _ _ _ h => h) (yieldsIf_load_mid (by rfl) 39 (.tmp 11) rfl (b11) 0 rfl (stC t (.slice ad n' c)).toList _ (fun w hS => rs_range (show rsAt w b11 t (.slice ad n' c) from Off.keeps (ex := fun j => j = b4 ∨ j = b5) hS HT.out (fun h => by have := HD.out; omega))) A.rstateU A.rstateR A.rstateI) (by assumption) ?_
  try simp only [Act.put, sA, sB, sC]
  refine tkA 1 ?_
  try simp only [Act.put, sA, sB, sC]
  refine tkA 2 ?_
  try simp only [Act.put, sA, sB, sC]
  refine tkA 3 ?_
  try simp only [Act.put, sA, sB, sC]
  refine tkA 4 ?_
  try simp only [Act.put, sA, sB, sC]
  refine tkA 5 ?_
  try simp only [Act.put, sA, sB, sC]
  refine tkA 6 ?_
  try simp only [Act.put, sA, sB, sC]
  clear k3 k0
  refine rdA 7 (fun K hK => ?_)
  (try rw [if_pos (by rfl)])
  refine wp_store_rs (.tmp 4) (.tmp 136) rfl (N := b4) (s := St.zero) (stk := (.slice none 0 0)) (s' := t) (stk' := (.slice ad n' c)) rfl rfl HZ.out rfl ?_
  intro w9 S1 F1
  have Y1 : Hid (blk4 w9 b5 45 (.bool false) (.int .i64 0) (.int .i64 0) (.int .i64 0)) := Off.keeps F1 HY.out (by have := HD.out; omega)
  have y0 : w9.cell? ⟨b5, 0, none⟩ = some (.bool false) := Y1.out.cell 0
  have y1 : w9.cell? ⟨b5, 1, none⟩ = some (.int .i64 0) := Y1.out.cell 1
  have y2 : w9.cell? ⟨b5, 2, none⟩ = some (.int .i64 0) := Y1.out.cell 2
  have y3 : w9.cell? ⟨b5, 3, none⟩ = some (.int .i64 0) := Y1.out.cell 3
  have yf : ∀ j, w9.frozen? ⟨b5, j, none⟩ = false := fun j => Y1.out.free j
  replace S1 := Lib.hid S1
  replace F1 := Lib.hid F1
  have F9 : Hid (Off (fun j => j = b4 ∨ j = b5) D w9) := F1.out.mono (fun _ _ h => .inl h)
  refine hK.out _ _ ?_ (fun hHeld => ?_)
  · exact F9.out
  clear hK K
  try simp only [Act.put]
  refine rdA 8 (fun K hK => ?_)
  go_simp
  refine hK.out _ _ ?_ (fun hHeld => ?_)
  · exact ((((F9.out.setCell (.inl (.inr rfl)) _).setCell (.inl (.inr rfl)) _).setCell (.inl (.inr rfl)) _).setCell (.inl (.inr rfl)) _)
  clear hK K
  try simp only [Act.put, sA, sB, sC]
  refine tkA 9 ?_
  try simp only [Act.put, sA, sB, sC]
  refine tkA 10 ?_
  try simp only [Act.put, sA, sB, sC]
  refine tkA 11 ?_
  try simp only [Act.put, sA, sB, sC]
  refine wpAnyH_done (by kernel_rfl) ?_ _
  refine NoPanic.normal ?_
  go_wp2_with fail
  exact (out4 S1.out F1.out Y1.out HD.out.2.1 true _ _ _).pre LD.out
set_option maxHeartbeats 8000000 in
theorem sw17 {W : World} {b2 b4 b5 b9 b11 b12 b14 n' c P : Nat} {ad : Option Addr} {s t : St} {n : Int} {g : Sg} {u mv : Value} {v0 v3 aO aP aQ aR aS aT aU aV aW aX aa ab ac ae af ag ah ai aj ak al am an ao ap aq ar av aw ax ay az aA aB aC aD aE aF aG aH aI aJ aK aL aY aZ a0 a1 a2 a4 a5 a6 a7 a8 a9 ba bb bc bd be bf bg bh bi bj bk bl bm bn bo bp bq br bs bt bu bv bw bx bz bA bB bC bD bE bF bG bH bI bJ bK bL bM bN bO bP bQ bR bS bT bU bV bW bX bY bZ b0 b1 b3 b6 b7 b8 ca cb cc cd ce cg ch ci cj ck cl cm cn co cq cr cs ct cu cv cw cx cy cz cA cB cC cD cE cF cG cH cI cJ cK cL cM cN cO cP cQ cR cS cT cU cV cW cX cY cZ c3 c4 c5 c6 c7 c8 c9 da db dc dd de df dg dh di dj dk dl dm dn dp dq dr ds dt du dv dw dx dy dz dA dB dC dD dE dF dG dH dI dJ dK dL dM dN dO dP dQ dR dS dT dU dV dW dX dY dZ d0 d1 d2 d3 d4 d5 d6 d7 d8 d9 ea ec ed ee ef eg eh ei ej ek el em en eo ep eq es et eu ev ew ey ez eA eB eC eD eE eF eG eH eI eJ eK eL eM eN eO eP eQ eR eS eT eU eV eW eX eY eZ e0 e1 e2 e3 e4 e5 e6 e7 e8 e9 fa fb fc fd fe ff fg fh fi fj fk fl fm fn fo fp fq fr fs ft fu fv fw fx fy fz fA fB fC fD fE aM aN : Value} {Q : Exit → Act → World → Prop} (E : SE W b2 b4 b5 b9 b11 b12 b14 s t (.slice ad n' c) 17 n P g u) (hP : P < 4)
    (hQ : ∀ (fF fG fH fI fJ fK fL fM fN fO fP fQ fR fS fT fU fV fW fX fY fZ f0 f1 f2 f3 f4 f5 f6 f7 f8 f9 ga gb gc gd ge gf gg gh gi gj gk gl gm gn gp gq gr gs gt gu gv gw gx gy gz gA gB gC gD gE gF gG gH gI gJ gK gL gM gN gO gP gQ gR gS gT gU gV gW gX gY gZ g1 g7 g8 g9 ha hb hc hd hf hi hn hp hq hr hs ht hv hw hz hA hB hC hD hE hF hG hH hI hJ hL hN hR hT hU hV hW hX hY hZ h0 h2 h3 h4 h6 h7 h8 h9 ia ib ic ie ig ih ii ij ik il im io ip iq ir it iu iv iw ix iy iz iA iB iC iD iE iF iG iH iI iJ iK iL iM iN iO iP iQ iR iS iT iU iV iW iX iY iZ i3 i4 i5 i6 i7 i8 ja jb jc jd je jf jg jh ji jj jk jl jm jn jo jp jq jr js jt ju jv jw jx jy jz jA jB jC jD jE jF jG jH jI jJ jK jL jM jN jO jP jQ jR jS jT jU jV jW jX jY jZ j0 j1 j2 j3 j4 j5 j6 j7 j8 j9 ka kb kc kd ke kf kg kh ki kj kk kl km kn ko kp kq kr ks kt ku kv kw kx ky kz kA kB kC kD kE kF kG kH kI kJ kK kL kM kN kO : Value) (W' : World), T11 W W' b11 (t.setP P ⟨pSeg s.a, pOff s.a, max s.ring (pRing s.a)⟩) (.slice ad n' c) → Q .normal ⟨(v0::mv::(.pointer (some ⟨b2, 0, none⟩))::v3::(.pointer (some ⟨b4, 0, none⟩))::(.pointer (some ⟨b5, 0, none⟩))::(.int .i64 0)::(.bool false)::(.int .i64 0)::(.pointer (some ⟨b9, 0, none⟩))::fF::(.pointer (some ⟨b11, 0, none⟩))::(.pointer (some ⟨b12, 0, none⟩))::(.int .i64 (s.eb (P : Int)))::(.pointer (some ⟨b14, 0, none⟩))::fG::fH::fI::fJ::fK::fL::fM::fN::fO::aa::ab::ac::ae::af::ag::ah::ai::aj::ak::al::am::an::ao::ap::aq::ar::av::aw::ax::ay::az::aA::aB::aC::aD::aE::aF::aG::aH::aI::aJ::aK::aL::fP::fQ::fR::fS::fT::fU::fV::fW::fX::fY::fZ::f0::f1::f2::f3::f4::f5::f6::f7::f8::f9::ga::gb::gc::gd::ge::gf::gg::gh::gi::gj::gk::gl::gm::gn::gp::gq::gr::gs::gt::gu::gv::gw::gx::gy::gz::gA::gB::gC::gD::gE::gF::gG::gH::gI::gJ::gK::gL::gM::gN::gO::gP::gQ::gR::gS::gT::gU::gV::gW::gX::gY::gZ::g1::g7::g8::g9::ha::hb::hc::hd::hf::hi::hn::hp::hq::hr::hs::ht::hv::hw::hz::hA::hB::hC::hD::hE::hF::hG::hH::hI::hJ::hL::hN::hR::hT::hU::hV::hW::hX::hY::hZ::h0::h2::h3::h4::h6::h7::h8::h9::ia::ib::ic::ie::ig::ih::ii::ij::ik::il::im::io::ip::iq::ir::it::iu::iv::iw::ix::iy::iz::iA::iB::iC::iD::iE::iF::iG::iH::iI::iJ::iK::iL::iM::iN::iO::iP::iQ::iR::iS::iT::iU::iV::iW::iX::iY::iZ::i3::i4::i5::i6::i7::i8::ja::jb::jc::jd::je::jf::jg::jh::ji::jj::jk::jl::jm::jn::jo::jp::jq::jr::js::jt::ju::jv::jw::jx::jy::jz::jA::jB::jC::jD::jE::jF::jG::jH::jI::jJ::jK::jL::jM::jN::jO::jP::jQ::jR::jS::jT::jU::jV::jW::jX::jY::jZ::j0::j1::j2::j3::j4::j5::j6::j7::j8::j9::ka::kb::kc::kd::ke::kf::kg::kh::ki::kj::kk::kl::km::kn::ko::kp::kq::kr::ks::kt::ku::kv::kw::kx::ky::kz::kA::kB::kC::kD::kE::kF::kG::kH::kI::kJ::kK::kL::kM::kN::kO::aM::aN::[]).toArray, []⟩ W') : Code.wp Try.prog sw Q ⟨(v0::mv::(.pointer (some ⟨b2, 0, none⟩))::v3::(.pointer (some ⟨b4, 0, none⟩))::(.pointer (some ⟨b5, 0, none⟩))::(.int .i64 0)::(.bool false)::(.int .i64 0)::(.pointer (some ⟨b9, 0, none⟩))::aO::(.pointer (some ⟨b11, 0, none⟩))::(.pointer (some ⟨b12, 0, none⟩))::(.int .i64 (s.eb (P : Int)))::(.pointer (some ⟨b14, 0, none⟩))::aP::aQ::aR::aS::aT::aU::aV::aW::aX::aa::ab::ac::ae::af::ag::ah::ai::aj::ak::al::am::an::ao::ap::aq::ar::av::aw::ax::ay::az::aA::aB::aC::aD::aE::aF::aG::aH::aI::aJ::aK::aL::aY::aZ::a0::a1::a2::a4::a5::a6::a7::a8::a9::ba::bb::bc::bd::be::bf::bg::bh::bi::bj::bk::bl::bm::bn::bo::bp::bq::br::bs::bt::bu::bv::bw::bx::bz::bA::bB::bC::bD::bE::bF::bG::bH::bI::bJ::bK::bL::bM::bN::bO::bP::bQ::bR::bS::bT::bU::bV::bW::bX::bY::bZ::b0::b1::b3::b6::b7::b8::ca::cb::cc::cd::ce::cg::ch::ci::cj::ck::cl::cm::cn::co::cq::cr::cs::ct::cu::cv::cw::cx::cy::cz::cA::cB::cC::cD::cE::cF::cG::cH::cI::cJ::cK::cL::cM::cN::cO::cP::cQ::cR::cS::cT::cU::cV::cW::cX::cY::cZ::c3::c4::c5::c6::c7::c8::c9::da::db::dc::dd::de::df::dg::dh::di::dj::dk::dl::dm::dn::dp::dq::dr::ds::dt::du::dv::dw::dx::dy::dz::dA::dB::dC::dD::dE::dF::dG::dH::dI::dJ::dK::dL::dM::dN::dO::dP::dQ::dR::dS::dT::dU::dV::dW::dX::dY::dZ::d0::d1::d2::d3::d4::d5::d6::d7::d8::d9::ea::ec::ed::ee::ef::eg::eh::ei::ej::ek::el::em::en::eo::ep::eq::es::et::eu::ev::ew::ey::ez::eA::eB::eC::eD::eE::eF::eG::eH::eI::eJ::eK::eL::eM::eN::eO::eP::eQ::eR::eS::eT::eU::eV::eW::eX::eY::eZ::e0::e1::e2::e3::e4::e5::e6::e7::e8::e9::fa::fb::fc::fd::fe::ff::fg::fh::fi::fj::fk::fl::fm::fn::fo::fp::fq::fr::fs::ft::fu::fv::fw::fx::fy::fz::fA::fB::fC::fD::fE::aM::aN::[]).toArray, []⟩ W := by
  have i0 : W.cell? ⟨b9, 0, none⟩ = some (.int .i64 17) := E.i9.facts.1.1
  have hPi : (P : Int) < 4 := by omega
  replace hP := Lib.hid hP
  have a3 : W.cell? ⟨b2, 3, none⟩ = some (.int .i64 s.a) := E.s2.cell 3
  have HY : Hid (blk4 W b5 45 (.bool false) (.int .i64 0) (.int .i64 0) (.int .i64 0)) := E.z5
  have HZ : Hid (rsAt W b4 St.zero (.slice none 0 0)) := E.z4
  have HD := Lib.hid E.d
  replace E := Lib.hid E
  conv => arg 2; whnf
  go_upto_region 42 with fail
  refine wp_region_noPanic ?_
  refine wp_region_held_drew (S := fun w' => Off (· = b11) W.drew w') (by kernel_rfl) (Off.refl _ _) (fun hHeld => ?_)
  have LD : Hid (Below W.heap.size W W.drew) := below_drew (Below.refl _ _)
  have k1 : ∀ w', Off (· = b11) W.drew w' → w'.cell? ⟨b9, 1, none⟩ = some (.int .i64 (P : Int)) := fun w' h => (show blk3 w' b9 64 (.int .i64 17) (.int .i64 (P : Int)) (.int .i64 n) from Off.keeps h (show blk3 W.drew b9 64 (.int .i64 17) (.int .i64 (P : Int)) (.int .i64 n) from E.out.i9) (by have := HD.out; omega)).facts.1.2.1
  have k3 : ∀ w', Off (· = b11) W.drew w' → w'.cell? ⟨b2, 3, none⟩ = some (.int .i64 s.a) := fun w' h => (show rsAt w' b2 s (.slice ad n' c) from Off.keeps h (show rsAt W.drew b2 s (.slice ad n' c) from E.out.s2) (by have := HD.out; omega)).cell 3
  have HT : Hid (rsAt W.drew b11 t (.slice ad n' c)) := E.out.t11
  have H2 : Hid (rsAt W.drew b2 s (.slice ad n' c)) := E.out.s2
  have H9 : Hid (blk3 W.drew b9 64 (.int .i64 17) (.int .i64 (P : Int)) (.int .i64 n)) := E.out.i9
  clear i0 a3
  generalize W.drew = D at HT H2 H9 LD k1 k3 hHeld ⊢
  try simp only [Act.put, sA, sB, sC]
  refine tkA 0 ?_
  try simp only [Act.put, sA, sB, sC]
  refine tkA 1 ?_
  try simp only [Act.put, sA, sB, sC]
  refine tkA 2 ?_
  try simp only [Act.put, sA, sB, sC]
  refine tkA 3 ?_
  try simp only [Act.put, sA, sB, sC]
  refine tkA 5 ?_
  try simp only [Act.put, sA, sB, sC]
  refine rdA 4 (fun K hK => ?_)
  go_simp
  refine (r_DecodePointer s.a D).mono ?_
  rintro e w1 ⟨rfl, hb1⟩
  dsimp only
  have F9 : Hid (Off (· = b11) D w1) := Off.of_below hb1
  have HT1 : Hid (rsAt w1 b11 t (.slice ad n' c)) := Off.keeps (.of_below (ex := fun _ => False) hb1) HT.out id
  clear hb1
  refine hK.out _ _ ?_ (fun hHeld => ?_)
  · exact F9.out
  clear hK K
  try simp only [Act.put, sA, sB, sC]
  refine tkA 6 ?_
  try simp only [Act.put, sA, sB, sC]
  obtain ⟨⟨z0, c0⟩, ⟨z1, c1⟩, ⟨z2, c2⟩⟩ := st_pts t (.slice ad n' c) P hP.out
  replace c0 := (HT1.out.cell (4 + P * 3)).trans c0
  replace c1 := (HT1.out.cell (4 + P * 3 + 1)).trans c1
  replace c2 := (HT1.out.cell (4 + P * 3 + 2)).trans c2
  have cf : ∀ j, w1.frozen? ⟨b11, j, none⟩ = false := fun j => HT1.out.free j
  clear k1 k3
  refine rdA 7 (fun K hK => ?_)
  go_simp
  refine hK.out _ _ ?_ (fun hHeld => ?_)
  · exact ((((F9.out).setCell (.inl rfl) _).setCell (.inl rfl) _).setCell (.inl rfl) _)
  clear hK K
  try simp only [Act.put, sA, sB, sC]
  refine wpAnyH_done (by kernel_rfl) ?_ _
  refine NoPanic.normal ?_
  obtain ⟨D2, hD2, T2, F2⟩ : ∃ D2, ((w1.setCell ⟨b11, 4 + P * 3, none⟩ (.int .i64 (pSeg s.a))).setCell ⟨b11, 4 + P * 3 + 1, none⟩ (.int .i64 (pOff s.a))).setCell ⟨b11, 4 + P * 3 + 2, none⟩ (.int .i64 (pRing s.a)) = D2 ∧ Hid (rsAt D2 b11 (t.setP P ⟨pSeg s.a, pOff s.a, pRing s.a⟩) (.slice ad n' c)) ∧ Hid (Off (· = b11) D D2) := ⟨_, rfl, rs_setp HT1.out hP.out ⟨pSeg s.a, pOff s.a, pRing s.a⟩, (((F9.out).setCell (.inl rfl) _).setCell (.inl rfl) _).setCell (.inl rfl) _⟩
  rw [hD2]
  clear hD2 c0 c1 c2 cf HT1 F9 HT
  go_upto_region 43 with fail
  refine wp_region_noPanic ?_
  refine wp_region_held_drew (S := fun w' => Off (· = b11) D2.drew w') (by kernel_rfl) (Off.refl _ _) (fun hHeld => ?_)
  have k1 : ∀ w', Off (· = b11) D2.drew w' → w'.cell? ⟨b9, 1, none⟩ = some (.int .i64 (P : Int)) := fun w' h => (show blk3 w' b9 64 (.int .i64 17) (.int .i64 (P : Int)) (.int .i64 n) from Off.keeps ((F2.out.drew).trans h) H9.out (by have := HD.out; omega)).facts.1.2.1
  have k2 : ∀ w', Off (· = b11) D2.drew w' → w'.cell? ⟨b2, 2, none⟩ = some (.int .i64 s.ring) := fun w' h => (show rsAt w' b2 s (.slice ad n' c) from Off.keeps ((F2.out.drew).trans h) H2.out (by have := HD.out; omega)).cell 2
  have T3 : Hid (rsAt D2.drew b11 (t.setP P ⟨pSeg s.a, pOff s.a, pRing s.a⟩) (.slice ad n' c)) := T2
  have F3 : Hid (Off (· = b11) D D2.drew) := F2.out.drew
  clear T2 F2 H2 H9
  generalize D2.drew = D3 at T3 F3 k1 k2 hHeld ⊢
  try simp only [Act.put, sA, sB, sC]
  refine tkA 0 ?_
  try simp only [Act.put, sA, sB, sC]
  refine tkA 1 ?_
  try simp only [Act.put, sA, sB, sC]
  refine tkA 2 ?_
  try simp only [Act.put, sA, sB, sC]
  refine tkA 3 ?_
  try simp only [Act.put, sA, sB, sC]
  refine tkA 4 ?_
  try simp only [Act.put, sA, sB, sC]
  refine tkA 5 ?_
  try simp only [Act.put, sA, sB, sC]
  refine tkA 6 ?_
  try simp only [Act.put, sA, sB, sC]
  refine tkA 8 ?_
  try simp only [Act.put, sA, sB, sC]
  refine tkA 9 ?_
  try simp only [Act.put, sA, sB, sC]
  refine tkA 11 ?_
  try simp only [Act.put, sA, sB, sC]
  have c2 : D3.cell? ⟨b11, 4 + P * 3 + 2, none⟩ = some (.int .i64 (pRing s.a)) := (T3.out.cell _).trans (by rw [(st_pt _ _ P hP.out).2.2, setP_ring2 t P _ hP.out])
  have cf : ∀ j, D3.frozen? ⟨b11, j, none⟩ = false := fun j => T3.out.free j
  clear k1 k2
  refine rdA 7 (fun K hK => ?_)
  go_simp
  refine hK.out _ _ ?_ (fun hHeld => ?_)
  · exact Off.refl _ _
  clear hK K
  try simp only [Act.put, sA, sB, sC]
  refine tkA 10 ?_
  try simp only [Act.put, sA, sB, sC]
  refine tkA 12 ?_
  try simp only [Act.put, sA, sB, sC]
  refine tkA 13 ?_
  try simp only [Act.put, sA, sB, sC]
  refine rdA 14 (fun K hK => ?_)
  go_simp
  refine hK.out _ _ ?_ (fun hHeld => ?_)
  · exact off1 _ _ _ _
  clear hK K
  try simp only [Act.put, sA, sB, sC]
  refine wpAnyH_done (by kernel_rfl) ?_ _
  refine NoPanic.normal ?_
  rw [ifmax s.ring (pRing s.a)]
  go_wp2_with fail
  exact T11.pre ⟨rs_pring T3.out hP.out (max s.ring (pRing s.a)), F3.out.trans (off1 _ _ _ _)⟩ LD.out
end Go.Proofs.Ytiakonmamkfopaa
namespace Go.Proofs.Ytiakonmamkfopaa
open Go.RowKit Go.ChangeShapes
set_option linter.unusedVariables false
set_option maxRecDepth 1000000
set_option maxHeartbeats 8000000 in
theorem sw18 {W : World} {b2 b4 b5 b9 b11 b12 b14 n' c P : Nat} {ad : Option Addr} {s t : St} {n : Int} {g : Sg} {u mv : Value} {v0 v3 aO aP aQ aR aS aT aU aV aW aX aa ab ac ae af ag ah ai aj ak al am an ao ap aq ar av aw ax ay az aA aB aC aD aE aF aG aH aI aJ aK aL aY aZ a0 a1 a2 a4 a5 a6 a7 a8 a9 ba bb bc bd be bf bg bh bi bj bk bl bm bn bo bp bq br bs bt bu bv bw bx bz bA bB bC bD bE bF bG bH bI bJ bK bL bM bN bO bP bQ bR bS bT bU bV bW bX bY bZ b0 b1 b3 b6 b7 b8 ca cb cc cd ce cg ch ci cj ck cl cm cn co cq cr cs ct cu cv cw cx cy cz cA cB cC cD cE cF cG cH cI cJ cK cL cM cN cO cP cQ cR cS cT cU cV cW cX cY cZ c3 c4 c5 c6 c7 c8 c9 da db dc dd de df dg dh di dj dk dl dm dn dp dq dr ds dt du dv dw dx dy dz dA dB dC dD dE dF dG dH dI dJ dK dL dM dN dO dP dQ dR dS dT dU dV dW dX dY dZ d0 d1 d2 d3 d4 d5 d6 d7 d8 d9 ea ec ed ee ef eg eh ei ej ek el em en eo ep eq es et eu ev ew ey ez eA eB eC eD eE eF eG eH eI eJ eK eL eM eN eO eP eQ eR eS eT eU eV eW eX eY eZ e0 e1 e2 e3 e4 e5 e6 e7 e8 e9 fa fb fc fd fe ff fg fh fi fj fk fl fm fn fo fp fq fr fs ft fu fv fw fx fy fz fA fB fC fD fE aM aN : Value} {Q : Exit → Act → World → Prop} (vs : List Value) (M : List Sg) (x : Int) (g2 : Sg) (E : SE W b2 b4 b5 b9 b11 b12 b14 s t (.slice ad n' c) 18 n P g u) (hP : P < 4) (hM : Segs W 0 mv vs M) (h5 : M.length ≤ 1000) (hws : ∀ g ∈ M, g.ws.length ≤ 16) (hrd : rdR M s (P : Int) n = .ok (x, g2)) 
    (hQ : ∀ (fF fG fH fI fJ fK fL fM fN fO fP fQ fR fS fT fU fV fW fX fY fZ f0 f1 f2 f3 f4 f5 f6 f7 f8 f9 ga gb gc gd ge gf gg gh gi gj gk gl gm gn gp gq gr gs gt gu gv gw gx gy gz gA gB gC gD gE gF gG gH gI gJ gK gL gM gN gO gP gQ gR gS gT gU gV gW gX gY gZ g1 g7 g8 g9 ha hb hc hd hf hi hn hp hq hr hs ht hv hw hz hA hB hC hD hE hF hG hH hI hJ hL hN hR hT hU hV hW hX hY hZ h0 h2 h3 h4 h6 h7 h8 h9 ia ib ic ie ig ih ii ij ik il im io ip iq ir it iu iv iw ix iy iz iA iB iC iD iE iF iG iH iI iJ iK iL iM iN iO iP iQ iR iS iT iU iV iW iX iY iZ i3 i4 i5 i6 i7 i8 ja jb jc jd je jf jg jh ji jj jk jl jm jn jo jp jq jr js jt ju jv jw jx jy jz jA jB jC jD jE jF jG jH jI jJ jK jL jM jN jO jP jQ jR jS jT jU jV jW jX jY jZ j0 j1 j2 j3 j4 j5 j6 j7 j8 j9 ka kb kc kd ke kf kg kh ki kj kk kl km kn ko kp kq kr ks kt ku kv kw kx ky kz kA kB kC kD kE kF kG kH kI kJ kK kL kM kN kO : Value) (W' : World), T11 W W' b11 (t.setP P ⟨pSeg x, pOff x, max (pRing x) (max g.r1 (s.eb (P : Int)))⟩) (.slice ad n' c) → Q .normal ⟨(v0::mv::(.pointer (some ⟨b2, 0, none⟩))::v3::(.pointer (some ⟨b4, 0, none⟩))::(.pointer (some ⟨b5, 0, none⟩))::(.int .i64 0)::(.bool false)::(.int .i64 0)::(.pointer (some ⟨b9, 0, none⟩))::fF::(.pointer (some ⟨b11, 0, none⟩))::(.pointer (some ⟨b12, 0, none⟩))::(.int .i64 (s.eb (P : Int)))::(.pointer (some ⟨b14, 0, none⟩))::fG::fH::fI::fJ::fK::fL::fM::fN::fO::aa::ab::ac::ae::af::ag::ah::ai::aj::ak::al::am::an::ao::ap::aq::ar::av::aw::ax::ay::az::aA::aB::aC::aD::aE::aF::aG::aH::aI::aJ::aK::aL::fP::fQ::fR::fS::fT::fU::fV::fW::fX::fY::fZ::f0::f1::f2::f3::f4::f5::f6::f7::f8::f9::ga::gb::gc::gd::ge::gf::gg::gh::gi::gj::gk::gl::gm::gn::gp::gq::gr::gs::gt::gu::gv::gw::gx::gy::gz::gA::gB::gC::gD::gE::gF::gG::gH::gI::gJ::gK::gL::gM::gN::gO::gP::gQ::gR::gS::gT::gU::gV::gW::gX::gY::gZ::g1::g7::g8::g9::ha::hb::hc::hd::hf::hi::hn::hp::hq::hr::hs::ht::hv::hw::hz::hA::hB::hC::hD::hE::hF::hG::hH::hI::hJ::hL::hN::hR::hT::hU::hV::hW::hX::hY::hZ::h0::h2::h3::h4::h6::h7::h8::h9::ia::ib::ic::ie::ig::ih::ii::ij::ik::il::im::io::ip::iq::ir::it::iu::iv::iw::ix::iy::iz::iA::iB::iC::iD::iE::iF::iG::iH::iI::iJ::iK::iL::iM::iN::iO::iP::iQ::iR::iS::iT::iU::iV::iW::iX::iY::iZ::i3::i4::i5::i6::i7::i8::ja::jb::jc::jd::je::jf::jg::jh::ji::jj::jk::jl::jm::jn::jo::jp::jq::jr::js::jt::ju::jv::jw::jx::jy::jz::jA::jB::jC::jD::jE::jF::jG::jH::jI::jJ::jK::jL::jM::jN::jO::jP::jQ::jR::jS::jT::jU::jV::jW::jX::jY::jZ::j0::j1::j2::j3::j4::j5::j6::j7::j8::j9::ka::kb::kc::kd::ke::kf::kg::kh::ki::kj::kk::kl::km::kn::ko::kp::kq::kr::ks::kt::ku::kv::kw::kx::ky::kz::kA::kB::kC::kD::kE::kF::kG::kH::kI::kJ::kK::kL::kM::kN::kO::aM::aN::[]).toArray, []⟩ W') : Code.wp Try.prog sw Q ⟨(v0::mv::(.pointer (some ⟨b2, 0, none⟩))::v3::(.pointer (some ⟨b4, 0, none⟩))::(.pointer (some ⟨b5, 0, none⟩))::(.int .i64 0)::(.bool false)::(.int .i64 0)::(.pointer (some ⟨b9, 0, none⟩))::aO::(.pointer (some ⟨b11, 0, none⟩))::(.pointer (some ⟨b12, 0, none⟩))::(.int .i64 (s.eb (P : Int)))::(.pointer (some ⟨b14, 0, none⟩))::aP::aQ::aR::aS::aT::aU::aV::aW::aX::aa::ab::ac::ae::af::ag::ah::ai::aj::ak::al::am::an::ao::ap::aq::ar::av::aw::ax::ay::az::aA::aB::aC::aD::aE::aF::aG::aH::aI::aJ::aK::aL::aY::aZ::a0::a1::a2::a4::a5::a6::a7::a8::a9::ba::bb::bc::bd::be::bf::bg::bh::bi::bj::bk::bl::bm::bn::bo::bp::bq::br::bs::bt::bu::bv::bw::bx::bz::bA::bB::bC::bD::bE::bF::bG::bH::bI::bJ::bK::bL::bM::bN::bO::bP::bQ::bR::bS::bT::bU::bV::bW::bX::bY::bZ::b0::b1::b3::b6::b7::b8::ca::cb::cc::cd::ce::cg::ch::ci::cj::ck::cl::cm::cn::co::cq::cr::cs::ct::cu::cv::cw::cx::cy::cz::cA::cB::cC::cD::cE::cF::cG::cH::cI::cJ::cK::cL::cM::cN::cO::cP::cQ::cR::cS::cT::cU::cV::cW::cX::cY::cZ::c3::c4::c5::c6::c7::c8::c9::da::db::dc::dd::de::df::dg::dh::di::dj::dk::dl::dm::dn::dp::dq::dr::ds::dt::du::dv::dw::dx::dy::dz::dA::dB::dC::dD::dE::dF::dG::dH::dI::dJ::dK::dL::dM::dN::dO::dP::dQ::dR::dS::dT::dU::dV::dW::dX::dY::dZ::d0::d1::d2::d3::d4::d5::d6::d7::d8::d9::ea::ec::ed::ee::ef::eg::eh::ei::ej::ek::el::em::en::eo::ep::eq::es::et::eu::ev::ew::ey::ez::eA::eB::eC::eD::eE::eF::eG::eH::eI::eJ::eK::eL::eM::eN::eO::eP::eQ::eR::eS::eT::eU::eV::eW::eX::eY::eZ::e0::e1::e2::e3::e4::e5::e6::e7::e8::e9::fa::fb::fc::fd::fe::ff::fg::fh::fi::fj::fk::fl::fm::fn::fo::fp::fq::fr::fs::ft::fu::fv::fw::fx::fy::fz::fA::fB::fC::fD::fE::aM::aN::[]).toArray, []⟩ W := by
  have i0 : W.cell? ⟨b9, 0, none⟩ = some (.int .i64 18) := E.i9.facts.1.1
  have hPi : (P : Int) < 4 := by omega
  replace hP := Lib.hid hP
  replace hM := Lib.hid hM
  replace h5 := Lib.hid h5
  replace hws := Lib.hid hws
  replace hrd := Lib.hid hrd
  have i1 : W.cell? ⟨b9, 1, none⟩ = some (.int .i64 (P : Int)) := E.i9.facts.1.2.1
  have i2 : W.cell? ⟨b9, 2, none⟩ = some (.int .i64 n) := E.i9.facts.1.2.2
  have HY : Hid (blk4 W b5 45 (.bool false) (.int .i64 0) (.int .i64 0) (.int .i64 0)) := E.z5
  have HZ : Hid (rsAt W b4 St.zero (.slice none 0 0)) := E.z4
  have HD := Lib.hid E.d
  replace E := Lib.hid E
  conv => arg 2; whnf
  go_upto_region 48 with (first | ((with_reducible refine wpList_load_rs (op := ⟨some 231, .load 39 (.tmp 2), _, _, _, _⟩) (N := b2) (s := s) (stk := (.slice ad n' c)) ?_ (.tmp 2) ?_ ?_ ?_ ?_); exact rfl; exact rfl; exact rfl; exact rs_range E.out.s2) | (go_at_call 45; refine (c_rread W s ad n' c mv vs M _ n P hP.out hM.out h5.out hws.out).mono ?_; rintro e w1 ⟨he, hb1⟩; rw [hrd.out] at he; obtain rfl := he; dsimp only [rdV]; have HB := Lib.hid hb1; have HT : Hid (rsAt w1 b11 t (.slice ad n' c)) := Off.keeps (.of_below (ex := fun _ => False) hb1) E.out.t11 id; have HG : Hid (blk7 w1 b14 57 (.bool g.is) u (.int .i64 g.md) (.int .i64 g.r1) (.int .i64 g.r2) (.int .i64 g.r3) (.int .i64 g.g)) := Off.keeps (.of_below (ex := fun _ => False) hb1) E.out.g14 id; have HI : Hid (blk3 w1 b9 64 (.int .i64 18) (.int .i64 (P : Int)) (.int .i64 n)) := Off.keeps (.of_below (ex := fun _ => False) hb1) E.out.i9 id; clear hb1))
  refine wp_region_noPanic ?_
  refine wp_region_held_drew (S := fun w' => Off (· = b11) w1.drew w') (by kernel_rfl) (Off.refl _ _) (fun hHeld => ?_)
  have LD : Hid (Below W.heap.size W w1.drew) := below_drew HB.out
  have k1 : ∀ w', Off (· = b11) w1.drew w' → w'.cell? ⟨b9, 1, none⟩ = some (.int .i64 (P : Int)) := fun w' h => (show blk3 w' b9 64 (.int .i64 18) (.int .i64 (P : Int)) (.int .i64 n) from Off.keeps h (show blk3 w1.drew b9 64 (.int .i64 18) (.int .i64 (P : Int)) (.int .i64 n) from HI.out) (by have := HD.out; omega)).facts.1.2.1
  have k3 : ∀ w', Off (· = b11) w1.drew w' → w'.cell? ⟨b14, 3, none⟩ = some (.int .i64 g.r1) := fun w' h => (show blk7 w' b14 57 (.bool g.is) u (.int .i64 g.md) (.int .i64 g.r1) (.int .i64 g.r2) (.int .i64 g.r3) (.int .i64 g.g) from Off.keeps h (show blk7 w1.drew b14 57 (.bool g.is) u (.int .i64 g.md) (.int .i64 g.r1) (.int .i64 g.r2) (.int .i64 g.r3) (.int .i64 g.g) from HG.out) (by have := HD.out; omega)).cell 3
  have k4 : ∀ w', Off (· = b11) w1.drew w' → w'.cell? ⟨b14, 4, none⟩ = some (.int .i64 g.r2) := fun w' h => (show blk7 w' b14 57 (.bool g.is) u (.int .i64 g.md) (.int .i64 g.r1) (.int .i64 g.r2) (.int .i64 g.r3) (.int .i64 g.g) from Off.keeps h (show blk7 w1.drew b14 57 (.bool g.is) u (.int .i64 g.md) (.int .i64 g.r1) (.int .i64 g.r2) (.int .i64 g.r3) (.int .i64 g.g) from HG.out) (by have := HD.out; omega)).cell 4
  have k5 : ∀ w', Off (· = b11) w1.drew w' → w'.cell? ⟨b14, 5, none⟩ = some (.int .i64 g.r3) := fun w' h => (show blk7 w' b14 57 (.bool g.is) u (.int .i64 g.md) (.int .i64 g.r1) (.int .i64 g.r2) (.int .i64 g.r3) (.int .i64 g.g) from Off.keeps h (show blk7 w1.drew b14 57 (.bool g.is) u (.int .i64 g.md) (.int .i64 g.r1) (.int .i64 g.r2) (.int .i64 g.r3) (.int .i64 g.g) from HG.out) (by have := HD.out; omega)).cell 5
  have k6 : ∀ w', Off (· = b11) w1.drew w' → w'.cell? ⟨b14, 6, none⟩ = some (.int .i64 g.g) := fun w' h => (show blk7 w' b14 57 (.bool g.is) u (.int .i64 g.md) (.int .i64 g.r1) (.int .i64 g.r2) (.int .i64 g.r3) (.int .i64 g.g) from Off.keeps h (show blk7 w1.drew b14 57 (.bool g.is) u (.int .i64 g.md) (.int .i64 g.r1) (.int .i64 g.r2) (.int .i64 g.r3) (.int .i64 g.g) from HG.out) (by have := HD.out; omega)).cell 6
  replace HT : Hid (rsAt w1.drew b11 t (.slice ad n' c)) := HT
  clear HG HI HB
  generalize w1.drew = D at HT LD k1 k3 k4 k5 k6 hHeld ⊢
  try simp only [Act.put, sA, sB, sC]
  refine tkA 0 ?_
  try simp only [Act.put, sA, sB, sC]
  refine tkA 1 ?_
  try simp only [Act.put, sA, sB, sC]
  refine tkA 2 ?_
  try simp only [Act.put, sA, sB, sC]
  refine tkA 4 ?_
  try simp only [Act.put, sA, sB, sC]
  refine tkA 5 ?_
  try simp only [Act.put, sA, sB, sC]
  refine tkA 6 ?_
  try simp only [Act.put, sA, sB, sC]
  refine tkA 8 ?_
  try simp only [Act.put, sA, sB, sC]
  clear k1 k3 k4 k5 k6
  refine rdA 3 (fun K hK => ?_)
  go_simp
  refine (r_DecodePointer x D).mono ?_
  rintro e w2 ⟨rfl, hb2⟩
  dsimp only
  have F2 : Hid (Off (· = b11) D w2) := Off.of_below hb2
  have HT2 : Hid (rsAt w2 b11 t (.slice ad n' c)) := Off.keeps (.of_below (ex := fun _ => False) hb2) HT.out id
  clear hb2
  refine hK.out _ _ ?_ (fun hHeld => ?_)
  · exact F2.out
  clear hK K
  try simp only [Act.put, sA, sB, sC]
  refine rdA 7 (fun K hK => ?_)
  go_simp
  refine (r_Follow _ _ _ _ _ _ _ _ w2).mono ?_
  rintro e w3 ⟨rfl, hb3⟩
  dsimp only
  have F9 : Hid (Off (· = b11) D w3) := F2.out.trans (Off.of_below hb3)
  have HT1 : Hid (rsAt w3 b11 t (.slice ad n' c)) := Off.keeps (.of_below (ex := fun _ => False) hb3) HT2.out id
  clear hb3
  refine hK.out _ _ ?_ (fun hHeld => ?_)
  · exact F9.out
  clear hK K
  try simp only [Act.put, sA, sB, sC]
  refine tkA 9 ?_
  try simp only [Act.put, sA, sB, sC]
  obtain ⟨⟨z0, c0⟩, ⟨z1, c1⟩, ⟨z2, c2⟩⟩ := st_pts t (.slice ad n' c) P hP.out
  replace c0 := (HT1.out.cell (4 + P * 3)).trans c0
  replace c1 := (HT1.out.cell (4 + P * 3 + 1)).trans c1
  replace c2 := (HT1.out.cell (4 + P * 3 + 2)).trans c2
  have cf : ∀ j, w3.frozen? ⟨b11, j, none⟩ = false := fun j => HT1.out.free j
  refine rdA 10 (fun K hK => ?_)
  go_simp
  refine hK.out _ _ ?_ (fun hHeld => ?_)
  · exact ((((F9.out).setCell (.inl rfl) _).setCell (.inl rfl) _).setCell (.inl rfl) _)
  clear hK K
  try simp only [Act.put, sA, sB, sC]
  refine wpAnyH_done (by kernel_rfl) ?_ _
  refine NoPanic.normal ?_
  have T2 := Lib.hid (rs_setp HT1.out hP.out ⟨pSeg x, pOff x, max (pRing x) (max g.r1 (s.eb (P : Int)))⟩)
  have F4 : Hid (Off (· = b11) D (((w3.setCell ⟨b11, 4 + P * 3, none⟩ (.int .i64 (pSeg x))).setCell ⟨b11, 4 + P * 3 + 1, none⟩ (.int .i64 (pOff x))).setCell ⟨b11, 4 + P * 3 + 2, none⟩ (.int .i64 (max (pRing x) (max g.r1 (s.eb (P : Int))))))) := (((F9.out).setCell (.inl rfl) _).setCell (.inl rfl) _).setCell (.inl rfl) _
  clear c0 c1 c2 cf
  go_wp2_with fail
  exact T11.pre ⟨T2.out, F4.out⟩ LD.out
end Go.Proofs.Ytiakonmamkfopaa
